/- Accounts of this seat's functions: lemmas, no statement of their own. No conditions. -/
import Derived.Test.YtjkenobomlbdcaaTJ
namespace Go.Proofs.Ytjkenobomlbdcaa
open Go Go.Vx
/-! ### the ladder's numbers -/
theorem Is_mod {x : List Int} {n : Int} (h : Is x n) : Is x (n % Q) := ⟨h.1, by rw [h.2, Int.emod_emod_of_dvd _ (Int.dvd_refl Q)]⟩
theorem Is_of {x : List Int} {n m : Int} (h : Is x n) (e : n % Q = m % Q) : Is x m := ⟨h.1, by rw [h.2, e]⟩
def zA (a b : Int) : Int := (a + b) % Q
def zS (a b : Int) : Int := (a - b) % Q
structure Lz where
  a : Int
  b : Int
  c : Int
  d : Int
def lzSw (s : Int) (L : Lz) : Lz := if s % 2 = 1 then ⟨L.c, L.d, L.a, L.b⟩ else L
def lzStep (x : Int) (L : Lz) : Lz :=
  let p := zA L.a L.b
  let pp := mm p p
  let q := zS L.a L.b
  let qq := mm q q
  let e := zS pp qq
  let m := zA L.c L.d
  let n := zS L.c L.d
  let v := mm n p
  let w := mm m q
  ⟨mm pp qq, mm e (zA pp (mm e 121665)), mm (zA v w) (zA v w), mm x (mm (zS v w) (zS v w))⟩
def shZ (k : Nat → Int) (x t : Int) (L : Lz) : Nat → Int × Lz
  | 0 => (t, L)
  | i + 1 => (kBit k i, lzStep x (lzSw (uadd .u64 (shZ k x t L i).1 (kBit k i)) (shZ k x t L i).2))
def zEnd (k : Nat → Int) (x : Int) : Lz :=
  let r := shZ k x 0 ⟨1, 0, x, 1⟩ 255
  lzSw r.1 r.2
def shV (k : Nat → Int) (x : Int) : Int := mm (zEnd k x).a (invM (zEnd k x).b)
def IsL (L : Ld) (M : Lz) : Prop := Is (L5 L.a) M.a ∧ Is (L5 L.b) M.b ∧ Is (L5 L.c) M.c ∧ Is (L5 L.d) M.d
theorem isL_sw {s : Int} (hs : 0 ≤ s) {L : Ld} {M : Lz} (h : IsL L M) : IsL (ldSw s L) (lzSw s M) := by
  obtain ⟨ha, hb, hc, hd⟩ := h
  have p1 : Is (L5 (ldSw s L).a) _ := is_swP hs ha hc
  have p2 : Is (L5 (ldSw s L).b) _ := is_swP hs hb hd
  have p3 : Is (L5 (ldSw s L).c) _ := is_swQ hs ha hc
  have p4 : Is (L5 (ldSw s L).d) _ := is_swQ hs hb hd
  unfold lzSw
  by_cases h : s % 2 = 1
  · rw [if_pos h] at p1 p2 p3 p4 ⊢
    exact ⟨p1, p2, p3, p4⟩
  · rw [if_neg h] at p1 p2 p3 p4 ⊢
    exact ⟨p1, p2, p3, p4⟩
theorem isL_step {x : Nat → Int} {n : Int} (hx : Is (L5 x) n) {L : Ld} {M : Lz} (h : IsL L M) : IsL (ldStep x L) (lzStep n M) := by
  obtain ⟨ha, hb, hc, hd⟩ := h
  have add : ∀ {x y : List Int} {n m : Int}, Is x n → Is y m → Is (L5 (faddN x y)) (zA n m) := fun h1 h2 => Is_mod (is_add h1 h2)
  have sub : ∀ {x y : List Int} {n m : Int}, Is x n → Is y m → Is (L5 (fsubN x y)) (zS n m) := fun h1 h2 => Is_mod (is_sub h1 h2)
  have mul : ∀ {x y : List Int} {n m : Int}, Is x n → Is y m → Is (L5 (fmulN x y)) (mm n m) := fun h1 h2 => Is_mod (is_mul h1 h2)
  have scl : ∀ {x : List Int} {n : Int}, Is x n → Is (L5 (fsclN x 121665)) (mm n 121665) := fun h1 => Is_mod (is_scl h1 (by decide))
  have p := add ha hb
  have pp := mul p p
  have q := sub ha hb
  have qq := mul q q
  have e := sub pp qq
  have m := add hc hd
  have n := sub hc hd
  have v := mul n p
  have w := mul m q
  exact ⟨mul pp qq, mul e (add pp (scl e)), mul (add v w) (add v w), mul hx (mul (sub v w) (sub v w))⟩
theorem kBit_nn (k : Nat → Int) (i : Nat) : 0 ≤ kBit k i := Int.natCast_nonneg _
theorem isL_sh {k x : Nat → Int} {n : Int} (hx : Is (L5 x) n) {L : Ld} {M : Lz} (h : IsL L M) : ∀ i, (shN k x 0 L i).1 = (shZ k n 0 M i).1 ∧ IsL (shN k x 0 L i).2 (shZ k n 0 M i).2
  | 0 => ⟨rfl, h⟩
  | i + 1 => by
    obtain ⟨e, ih⟩ := isL_sh hx h i
    refine ⟨rfl, ?_⟩
    show IsL (ldStep x (ldSw (uadd .u64 (shN k x 0 L i).1 (kBit k i)) (shN k x 0 L i).2)) (lzStep n (lzSw (uadd .u64 (shZ k n 0 M i).1 (kBit k i)) (shZ k n 0 M i).2))
    rw [e]
    exact isL_step hx (isL_sw (Int.natCast_nonneg _) ih)
theorem sh_t0 (k : Nat → Int) (n : Int) (M : Lz) : ∀ i, 0 ≤ (shZ k n 0 M i).1
  | 0 => Int.le_refl 0
  | i + 1 => kBit_nn k i
theorem isL_begin {u : Nat → Int} {n : Int} (hu : Is (L5 (fdecN (listF 32 u 0))) n) (h1 : Is (L5 (fdecN (kl 1))) 1) (h0 : Is [0, 0, 0, 0, 0] 0) : IsL (yL (shY u)) ⟨1, 0, n, 1⟩ := ⟨h1, h0, hu, h1⟩
theorem kl_byte {m : Int} (h : 0 ≤ m ∧ m < 256) : ∀ i, i < 32 → Byte (atL (kl m) i) := fun i hi => by
  refine getD_byte _ i fun x hx => ?_
  simp only [kl, List.mem_cons, List.mem_replicate] at hx
  rcases hx with rfl | ⟨_, rfl⟩
  · exact h
  · exact ⟨by decide, by decide⟩
theorem kl_le {m : Int} : leN 32 (atL (kl m)) 0 = m := by
  show m + 256 * leN 31 (atL (kl m)) 1 = m
  have : leN 31 (atL (kl m)) 1 = 0 := rfl
  rw [this]; omega
theorem is_k {m : Int} (h : 0 ≤ m ∧ m < 256) : Is (L5 (fdecN (kl m))) m := by
  have := is_dec (l := kl m) (kl_byte h)
  rw [kl_le] at this
  refine ⟨this.1, ?_⟩
  rw [this.2]
  rw [Int.emod_eq_of_lt (a := m) h.1 (by omega)]
theorem is_z : Is [0, 0, 0, 0, 0] 0 := ⟨⟨by decide, by decide, by decide, by decide, by decide⟩, by decide⟩
/-- the number of 32 bytes -/
abbrev dV (x : Nat → Int) : Int := leN 32 (atL (listF 32 x 0)) 0 % 57896044618658097711785492504343953926634992332820282019728792003956564819968
theorem shF_V {k u : Nat → Int} {n : Int} (hu : Is (L5 (fdecN (listF 32 u 0))) n) : listF 32 (shF k u) 0 = listF 32 (byteN (shV (atL (listF 32 (shK k) 0)) n)) 0 := by
  have hb := isL_begin hu (is_k (m := 1) (by decide)) is_z
  have hx : Is (L5 (yX (shY u))) n := hu
  obtain ⟨e1, e2⟩ := isL_sh (k := atL (listF 32 (shK k) 0)) hx hb 255
  have hE : IsL (shEnd k u) (zEnd (atL (listF 32 (shK k) 0)) n) := by
    unfold shEnd zEnd
    show IsL (ldSw (shN _ _ 0 _ 255).1 (shN _ _ 0 _ 255).2) (lzSw (shZ _ _ 0 _ 255).1 (shZ _ _ 0 _ 255).2)
    rw [e1]
    exact isL_sw (sh_t0 _ _ _ _) e2
  have hm := is_mul hE.1 (is_invM hE.2.1)
  exact bytes_eq hm
end Go.Proofs.Ytjkenobomlbdcaa
