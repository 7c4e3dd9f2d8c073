/- Accounts of this seat's functions: lemmas, no statement of their own. No conditions. -/
import Derived.Test.YtghdadkpbofbbaaTG
namespace Go.Proofs.Ytghdadkpbofbbaa
open Go Go.Vx
noncomputable abbrev b32 (x : Nat → Int) : List SV := svF (List.replicate 32 .u8) x 0
abbrev dE (x : Nat → Int) : List Int := L5 (fdecN (listF 32 x 0))
abbrev eqC (x y : List Int) : Prop := (!decide (BS x = BS y)) = false
abbrev eqT (x y : List Int) : Prop := decide (BS x = BS y) = true
theorem eqC_of {x y : List Int} {n m : Int} (hx : Is x n) (hy : Is y m) (h : n % Q = m % Q) : eqC x y := by
  unfold eqC; rw [eq_of hx hy h]; simp
theorem eqT_of {x y : List Int} {n m : Int} (hx : Is x n) (hy : Is y m) (h : n % Q = m % Q) : eqT x y := by
  unfold eqT; rw [eq_of hx hy h]; simp
theorem dec_byte {x : Nat → Int} (h : ∀ (i : Nat) (q : IntKind), (List.replicate 32 IntKind.u8)[i]? = some q → Fits q (x i)) : ∀ i, i < 32 → Byte (atL (listF 32 x 0) i) := fun i hi => by
  rw [atL_listF hi]
  have h1 := h i .u8 (by rw [List.getElem?_replicate, if_pos hi])
  exact ⟨h1.1, Int.lt_of_le_of_lt h1.2 (by decide)⟩
/-! ### FieldSwaps -/
abbrev sP (s : Int) (x y : Nat → Int) : List Int := L5 (swP s (fdecN (listF 32 x 0)) (fdecN (listF 32 y 0)))
abbrev sQ (s : Int) (x y : Nat → Int) : List Int := L5 (swQ s (fdecN (listF 32 x 0)) (fdecN (listF 32 y 0)))
abbrev sP2 (s : Int) (x y : Nat → Int) : List Int := L5 (swP s (swP s (fdecN (listF 32 x 0)) (fdecN (listF 32 y 0))) (swQ s (fdecN (listF 32 x 0)) (fdecN (listF 32 y 0))))
abbrev sQ2 (s : Int) (x y : Nat → Int) : List Int := L5 (swQ s (swP s (fdecN (listF 32 x 0)) (fdecN (listF 32 y 0))) (swQ s (fdecN (listF 32 x 0)) (fdecN (listF 32 y 0))))
/-- one with itself -/
abbrev swS (s : Int) (p : Nat → Int) (i : Nat) : Int := uxor (uxor (p i) (uand (uneg .u64 (umask s 1)) (uxor (p i) (p i)))) (uand (uneg .u64 (umask s 1)) (uxor (p i) (p i)))
abbrev sP3 (s : Int) (x y : Nat → Int) : List Int := L5 (swS s (swP s (swP s (fdecN (listF 32 x 0)) (fdecN (listF 32 y 0))) (swQ s (fdecN (listF 32 x 0)) (fdecN (listF 32 y 0)))))
noncomputable abbrev sA (x y : Nat → Int) (s : Int) : List SV := [.agg (b32 x), .agg (b32 y), .int .u64 s]
theorem sw_run1 (x y : Nat → Int) (s : Int) : runF gG 3000 [.br true, .br false, .br false, .br false, .br true, .br true] 8 (sA x y s) [] [] =
    some (.sbool true, [], [decide (urem s 2 = 0) = false, eqC (sQ s x y) (dE x), eqC (sP s x y) (dE y), decide (urem s 2 = 1) = true, eqT (sQ2 s x y) (dE y), eqT (sP3 s x y) (dE x)]) :=
  run_parts (by kernel_rfl) (by kernel_rfl) (by kernel_rfl)
theorem sw_run0 (x y : Nat → Int) (s : Int) : runF gG 3000 [.br false, .br true, .br false, .br false, .br true, .br true] 8 (sA x y s) [] [] =
    some (.sbool true, [], [eqC (sP s x y) (dE x), decide (urem s 2 = 0) = true, decide (urem s 2 = 1) = false, eqC (sQ s x y) (dE y), eqT (sQ2 s x y) (dE y), eqT (sP3 s x y) (dE x)]) :=
  run_parts (by kernel_rfl) (by kernel_rfl) (by kernel_rfl)
theorem uremE {s : Int} (h : 0 ≤ s) : urem s 2 = s % 2 := by
  obtain ⟨a, rfl⟩ := Int.eq_ofNat_of_zero_le h
  unfold urem
  rw [Int.toNat_natCast, show (2 : Int).toNat = 2 from rfl, Int.ofNat_eq_natCast]
  omega
theorem swS_eq {s : Int} {p : Nat → Int} {i : Nat} (h : 0 ≤ p i) : swS s p i = p i := by
  obtain ⟨a, ha⟩ := Int.eq_ofNat_of_zero_le h
  unfold swS
  rw [ha]
  obtain ⟨d, hd⟩ : ∃ d : Nat, uand (uneg .u64 (umask s 1)) (uxor (a : Int) (a : Int)) = (d : Int) := ⟨_, rfl⟩
  rw [hd]
  have o : ∀ x y : Nat, uxor (x : Int) (y : Int) = ((x ^^^ y : Nat) : Int) := fun _ _ => rfl
  rw [o, o, Nat.xor_assoc, Nat.xor_self, Nat.xor_zero]
/-- what 32 bytes are -/
abbrev dV (x : Nat → Int) : Int := leN 32 (atL (listF 32 x 0)) 0 % 57896044618658097711785492504343953926634992332820282019728792003956564819968
theorem swaps_ok (x : Nat → Int) (hx : ∀ (i : Nat) (q : IntKind), (List.replicate 32 IntKind.u8)[i]? = some q → Fits q (x i)) (y : Nat → Int) (hy : ∀ (i : Nat) (q : IntKind), (List.replicate 32 IntKind.u8)[i]? = some q → Fits q (y i)) (s : Int) (hs : Fits .u64 s) :
    FnOk gG 8 (sA x y s) [] { val := .sbool true } := by
  have s0 : 0 ≤ s := hs.1
  have A : Is (dE x) (dV x) := is_dec (dec_byte hx)
  have B : Is (dE y) (dV y) := is_dec (dec_byte hy)
  have P : Is (sP s x y) (if s % 2 = 1 then dV y else dV x) := is_swP s0 A B
  have R : Is (sQ s x y) (if s % 2 = 1 then dV x else dV y) := is_swQ s0 A B
  have P2 : Is (sP2 s x y) (if s % 2 = 1 then (if s % 2 = 1 then dV x else dV y) else (if s % 2 = 1 then dV y else dV x)) := is_swP s0 P R
  have R2 : Is (sQ2 s x y) (if s % 2 = 1 then (if s % 2 = 1 then dV y else dV x) else (if s % 2 = 1 then dV x else dV y)) := is_swQ s0 P R
  have P3 : Is (sP3 s x y) (if s % 2 = 1 then (if s % 2 = 1 then dV x else dV y) else (if s % 2 = 1 then dV y else dV x)) := Is_congr P2 fun i hi => by
    rw [atL_listF hi, swS_eq, atL_listF hi]
    have := (fs_u64 P2.1 i hi).1
    rw [atL_listF hi] at this
    exact this
  have hu := uremE s0
  by_cases h : s % 2 = 1
  · rw [if_pos h] at P R
    rw [if_pos h, if_pos h] at P2 R2 P3
    refine FnOk.pure gG_ok (sw_run1 x y s) ?_
    simp only [allC_cons, allC_nil, and_true]
    exact ⟨decide_eq_false (by omega), eqC_of R A rfl, eqC_of P B rfl, decide_eq_true (by omega), eqT_of R2 B rfl, eqT_of P3 A rfl⟩
  · rw [if_neg h] at P R
    rw [if_neg h, if_neg h] at P2 R2 P3
    refine FnOk.pure gG_ok (sw_run0 x y s) ?_
    simp only [allC_cons, allC_nil, and_true]
    exact ⟨eqC_of P A rfl, decide_eq_true (by omega), decide_eq_false (by omega), eqC_of R B rfl, eqT_of R2 B rfl, eqT_of P3 A rfl⟩
/-! ### FieldRing -/
abbrev z5 : List Int := [0, 0, 0, 0, 0]
abbrev mK (n : Int) : List Int := [ucut .u8 n, ucut .u8 (ushr n 8), ucut .u8 (ushr n 16), ucut .u8 (ushr n 24)] ++ List.replicate 28 0
abbrev aD (x y : List Int) : List Int := L5 (faddN x y)
abbrev sB (x y : List Int) : List Int := L5 (fsubN x y)
abbrev mU (x y : List Int) : List Int := L5 (fmulN x y)
noncomputable abbrev rA (x y z : Nat → Int) (n : Int) : List SV := [.agg (b32 x), .agg (b32 y), .agg (b32 z), .int .u32 n]
abbrev rC (A B C : List Int) (n : Int) : List Prop := [eqC (sB (aD A B) B) A, eqC (aD (aD A B) C) (aD A (aD B C)), eqC (aD A B) (aD B A), eqC (aD (sB A B) B) A,
  eqC (mU (mU A B) C) (mU A (mU B C)), eqC (mU A B) (mU B A), eqC (mU A (aD B C)) (aD (mU A B) (mU A C)),
  eqC (sB A A) z5, eqC (mU A z5) z5, eqC (mU A (kT 1)) A, eqC (aD A z5) A, eqC (L5 (fmulN (listF 5 (atL A) 0) (listF 5 (atL A) 0))) (mU A A),
  eqT (L5 (fsclN A n)) (mU A (L5 (fdecN (mK n))))]
theorem ring_run (x y z : Nat → Int) (n : Int) : runF gG 3000 [.br false, .br false, .br false, .br false, .br false, .br false, .br false, .br false, .br false, .br false, .br false, .br false, .br true] 5 (rA x y z n) [] [] =
    some (.sbool true, [], rC (dE x) (dE y) (dE z) n) :=
  run_parts (by kernel_rfl) (by kernel_rfl) (by kernel_rfl)
theorem is_z : Is z5 0 := ⟨⟨by decide, by decide, by decide, by decide, by decide⟩, by decide⟩
theorem mK_byte {n : Int} : ∀ i, i < 32 → Byte (atL (mK n) i) := fun i hi => by
  refine getD_byte _ i fun x hx => ?_
  simp only [mK, List.mem_append, List.mem_cons, List.mem_replicate, List.not_mem_nil, or_false] at hx
  rcases hx with (rfl | rfl | rfl | rfl) | ⟨_, rfl⟩
  · exact ucut_byte _
  · exact ucut_byte _
  · exact ucut_byte _
  · exact ucut_byte _
  · exact ⟨by decide, by decide⟩
theorem mK_le {n : Int} (h : 0 ≤ n ∧ n < 4294967296) : leN 32 (atL (mK n)) 0 = n := by
  show ucut .u8 n + 256 * (ucut .u8 (ushr n 8) + 256 * (ucut .u8 (ushr n 16) + 256 * (ucut .u8 (ushr n 24) + 256 * leN 28 (atL (mK n)) 4))) = n
  have z : leN 28 (atL (mK n)) 4 = 0 := rfl
  rw [z, ucut8 h.1, show ucut .u8 (ushr n 8) = n / 256 % 256 from cut_shr 8 h.1, show ucut .u8 (ushr n 16) = n / 65536 % 256 from cut_shr 16 h.1, show ucut .u8 (ushr n 24) = n / 16777216 % 256 from cut_shr 24 h.1]
  omega
theorem is_mK {n : Int} (h : 0 ≤ n ∧ n < 4294967296) : Is (L5 (fdecN (mK n))) n := by
  have := is_dec (l := mK n) mK_byte
  rw [mK_le h] at this
  refine ⟨this.1, ?_⟩
  rw [this.2]
  rw [Int.emod_eq_of_lt (a := n) h.1 (by omega)]
theorem ring_ok (x : Nat → Int) (hx : ∀ (i : Nat) (q : IntKind), (List.replicate 32 IntKind.u8)[i]? = some q → Fits q (x i)) (y : Nat → Int) (hy : ∀ (i : Nat) (q : IntKind), (List.replicate 32 IntKind.u8)[i]? = some q → Fits q (y i)) (z : Nat → Int) (hz : ∀ (i : Nat) (q : IntKind), (List.replicate 32 IntKind.u8)[i]? = some q → Fits q (z i)) (n : Int) (hn : Fits .u32 n) :
    FnOk gG 5 (rA x y z n) [] { val := .sbool true } := by
  have n0 : 0 ≤ n ∧ n < 4294967296 := ⟨hn.1, Int.lt_of_le_of_lt hn.2 (by decide)⟩
  have A : Is (dE x) (dV x) := is_dec (dec_byte hx)
  have B : Is (dE y) (dV y) := is_dec (dec_byte hy)
  have C : Is (dE z) (dV z) := is_dec (dec_byte hz)
  refine FnOk.pure gG_ok (ring_run x y z n) ?_
  generalize dE x = a at *
  generalize dE y = b at *
  generalize dE z = c at *
  generalize dV x = α at *
  generalize dV y = β at *
  generalize dV z = γ at *
  simp only [rC, allC_cons, allC_nil, and_true]
  refine ⟨eqC_of (is_sub (is_add A B) B) A ?_, eqC_of (is_add (is_add A B) C) (is_add A (is_add B C)) ?_, eqC_of (is_add A B) (is_add B A) ?_, eqC_of (is_add (is_sub A B) B) A ?_,
    eqC_of (is_mul (is_mul A B) C) (is_mul A (is_mul B C)) ?_, eqC_of (is_mul A B) (is_mul B A) ?_, eqC_of (is_mul A (is_add B C)) (is_add (is_mul A B) (is_mul A C)) ?_,
    eqC_of (is_sub A A) is_z ?_, eqC_of (is_mul A is_z) is_z ?_, eqC_of (is_mul A (is_k (m := 1) (by decide))) A ?_, eqC_of (is_add A is_z) A ?_, eqC_of (is_mul (is_list A) (is_list A)) (is_mul A A) ?_,
    eqT_of (is_scl A n0) (is_mul A (is_mK n0)) ?_⟩
  · rw [Int.add_sub_cancel]
  · rw [Int.add_assoc]
  · rw [Int.add_comm]
  · rw [Int.sub_add_cancel]
  · rw [Int.mul_assoc]
  · rw [Int.mul_comm]
  · rw [Int.mul_add]
  · rw [Int.sub_self]
  · rw [Int.mul_zero]
  · rw [Int.mul_one]
  · rw [Int.add_zero]
  · rfl
  · rfl
end Go.Proofs.Ytghdadkpbofbbaa
