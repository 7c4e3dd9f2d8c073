/- A symbolic executor over the model's code, and that it is sound, part 5: lemmas for the proofs of this seat, no statement of their own. No conditions. -/
import Derived.Test.YthciddlfnajchaaDoorV4

set_option linter.unusedVariables false
/- Sums and products of numbers of sixteen digits. Plain law. -/
namespace Go.Vx
open Go

theorem hx_plus : ∀ (n : Nat) (f g : Nat → Int) (i : Nat), hx n (fun j => f j + g j) i = hx n f i + hx n g i
  | 0, _, _, _ => rfl
  | n + 1, f, g, i => by simp only [hx, hx_plus n f g (i + 1)]; omega
theorem hx_minus : ∀ (n : Nat) (f g : Nat → Int) (i : Nat), hx n (fun j => f j - g j) i = hx n f i - hx n g i
  | 0, _, _, _ => rfl
  | n + 1, f, g, i => by simp only [hx, hx_minus n f g (i + 1)]; omega
theorem hx_times (c : Int) : ∀ (n : Nat) (f : Nat → Int) (i : Nat), hx n (fun j => c * f j) i = c * hx n f i
  | 0, _, _ => by simp [hx]
  | n + 1, f, i => by
    simp only [hx, hx_times c n f (i + 1), Int.mul_add]
    rw [Int.mul_left_comm]
theorem hx_null : ∀ (n : Nat) {f : Nat → Int} (i : Nat), (∀ j, j < n → f (i + j) = 0) → hx n f i = 0
  | 0, _, _, _ => rfl
  | n + 1, f, i, h => by
    simp only [hx]
    have h0 := h 0 (by omega)
    rw [Nat.add_zero] at h0
    rw [h0, hx_null n (i + 1) (fun j hj => by have := h (j + 1) (by omega); rw [show i + 1 + j = i + (j + 1) by omega]; exact this)]
    rfl
theorem hx_cut : ∀ (n m : Nat) (f : Nat → Int) (i : Nat), hx (n + m) f i = hx n f i + ((65536 ^ n : Nat) : Int) * hx m f (i + n)
  | 0, m, f, i => by simp [hx]
  | n + 1, m, f, i => by
    rw [show n + 1 + m = (n + m) + 1 by omega]
    simp only [hx, hx_cut n m f (i + 1)]
    have e : ((65536 ^ (n + 1) : Nat) : Int) = 65536 * ((65536 ^ n : Nat) : Int) := by rw [Nat.pow_succ]; omega
    rw [e, show i + 1 + n = i + (n + 1) by omega, Int.mul_add, Int.mul_assoc]
    omega
theorem hx_moved : ∀ (n : Nat) {f g : Nat → Int} (i k : Nat), (∀ j, j < n → f (i + j) = g (k + j)) → hx n f i = hx n g k
  | 0, _, _, _, _, _ => rfl
  | n + 1, f, g, i, k, h => by
    simp only [hx]
    have h0 := h 0 (by omega)
    rw [Nat.add_zero, Nat.add_zero] at h0
    rw [h0, hx_moved n (f := f) (g := g) (i + 1) (k + 1) (fun j hj => by have := h (j + 1) (by omega); rw [show i + 1 + j = i + (j + 1) by omega, show k + 1 + j = k + (j + 1) by omega]; exact this)]

/-- the columns after i rows -/
def mwC (a b : Nat → Int) : Nat → Nat → Int
  | 0, _ => 0
  | i + 1, j => bif (Nat.ble i j).and (Nat.blt j (i + 16)) then mwC a b i j + a i * b (j - i) else mwC a b i j
/-- one row -/
def mrC (a b : Nat → Int) (i j : Nat) : Int := bif (Nat.ble i j).and (Nat.blt j (i + 16)) then a i * b (j - i) else 0
theorem mwC_succ (a b : Nat → Int) (i j : Nat) : mwC a b (i + 1) j = mwC a b i j + mrC a b i j := by
  simp only [mwC, mrC]
  cases (Nat.ble i j).and (Nat.blt j (i + 16)) <;> simp
theorem mr_in {a b : Nat → Int} {i j : Nat} (h : i ≤ j) (h2 : j < i + 16) : mrC a b i j = a i * b (j - i) := by
  have e : (Nat.ble i j).and (Nat.blt j (i + 16)) = true := by
    rw [Bool.and_eq_true, Nat.ble_eq, Nat.blt_eq]; exact ⟨h, h2⟩
  simp only [mrC, e, cond_true]
theorem mr_out {a b : Nat → Int} {i j : Nat} (h : j < i ∨ i + 16 ≤ j) : mrC a b i j = 0 := by
  have e : (Nat.ble i j).and (Nat.blt j (i + 16)) = false := by
    rw [← Bool.not_eq_true, Bool.and_eq_true, Nat.ble_eq, Nat.blt_eq]; omega
  simp only [mrC, e, cond_false]
theorem hx_row (a b : Nat → Int) {i : Nat} (hi : i < 16) : hx 32 (mrC a b i) 0 = ((65536 ^ i : Nat) : Int) * (a i * hx 16 b 0) := by
  have e : (32 : Nat) = i + (16 + (16 - i)) := by omega
  rw [e, hx_cut i, hx_cut 16, hx_null i 0 (fun j hj => mr_out (.inl (by omega))), hx_null (16 - i) _ (fun j hj => mr_out (.inr (by omega)))]
  rw [hx_moved 16 (f := mrC a b i) (g := fun j => a i * b j) (0 + i) 0 (fun j hj => by
    rw [mr_in (by omega) (by omega), show 0 + i + j - i = 0 + j by omega]), hx_times]
  simp
theorem hx_rows (a b : Nat → Int) : ∀ i, i ≤ 16 → hx 32 (mwC a b i) 0 = hx i a 0 * hx 16 b 0
  | 0, _ => by rw [hx_null 32 0 (fun j _ => rfl)]; simp [hx]
  | i + 1, h => by
    have e : mwC a b (i + 1) = fun j => mwC a b i j + mrC a b i j := funext fun j => mwC_succ a b i j
    rw [e, hx_plus, hx_rows a b i (by omega), hx_row a b (by omega), hx_cut i 1]
    simp only [hx, Nat.zero_add, Int.mul_zero, Int.add_zero]
    rw [Int.add_mul, Int.mul_assoc]
theorem hx_prod (a b : Nat → Int) : hx 32 (mwC a b 16) 0 = hx 16 a 0 * hx 16 b 0 := hx_rows a b 16 (Nat.le_refl _)

theorem mul_bound {x y : Int} (hx : 0 ≤ x ∧ x ≤ 65535) (hy : 0 ≤ y ∧ y ≤ 65535) : 0 ≤ x * y ∧ x * y ≤ 4294836225 := by
  refine ⟨Int.mul_nonneg hx.1 hy.1, ?_⟩
  have := Int.mul_le_mul hx.2 hy.2 hy.1 (by decide : (0 : Int) ≤ 65535)
  omega
theorem mr_bound {a b : Nat → Int} (ha : ∀ j, j < 16 → 0 ≤ a j ∧ a j ≤ 65535) (hb : ∀ j, j < 16 → 0 ≤ b j ∧ b j ≤ 65535) {i : Nat} (hi : i < 16) (j : Nat) : 0 ≤ mrC a b i j ∧ mrC a b i j ≤ 4294836225 := by
  by_cases h : i ≤ j ∧ j < i + 16
  · rw [mr_in h.1 h.2]; exact mul_bound (ha i hi) (hb _ (by omega))
  · rw [mr_out (by omega)]; decide
theorem mw_bound {a b : Nat → Int} (ha : ∀ j, j < 16 → 0 ≤ a j ∧ a j ≤ 65535) (hb : ∀ j, j < 16 → 0 ≤ b j ∧ b j ≤ 65535) : ∀ (i : Nat), i ≤ 16 → ∀ j, 0 ≤ mwC a b i j ∧ mwC a b i j ≤ 4294836225 * i
  | 0, _, j => by simp [mwC]
  | i + 1, h, j => by
    have ih := mw_bound ha hb i (by omega) j
    have h1 := mr_bound ha hb (i := i) (by omega) j
    rw [mwC_succ]
    omega
/-- the columns folded by 2^256 = 38 -/
def mtC (a b : Nat → Int) (i : Nat) : Int := mwC a b 16 i + 38 * mwC a b 16 (i + 16)
theorem hx_mt (a b : Nat → Int) : ∃ q, hx 16 (mtC a b) 0 = hx 16 a 0 * hx 16 b 0 - 57896044618658097711785492504343953926634992332820282019728792003956564819949 * q := by
  have h := hx_prod a b
  rw [show (32 : Nat) = 16 + 16 from rfl, hx_cut 16 16] at h
  have e : hx 16 (mtC a b) 0 = hx 16 (mwC a b 16) 0 + 38 * hx 16 (mwC a b 16) (0 + 16) := by
    show hx 16 (fun j => mwC a b 16 j + 38 * mwC a b 16 (j + 16)) 0 = _
    rw [hx_plus, hx_times, hx_moved 16 (f := fun j => mwC a b 16 (j + 16)) (g := mwC a b 16) 0 (0 + 16) (fun j _ => by
      show mwC a b 16 (0 + j + 16) = _; rw [show 0 + j + 16 = 0 + 16 + j by omega])]
  rw [p16] at h
  refine ⟨2 * hx 16 (mwC a b 16) (0 + 16), ?_⟩
  rw [e, ← h]
  omega
end Go.Vx

/- Chunks that change their number; a nil slice in a chunk's last cell as a slice of its own. -/
namespace Go.Vx
open Go
section
variable {w0 : World} {O : Own} {ρ : Rho} {w : World} {Φ : Nat → Foot}

theorem relH_adoptB {B : List Body} {k : Nat} {cs : List SV} {bd : Body} (hk : B[k]? = some (.cells (cs ++ [.raw (.slice none 0 0)]))) (hb : emptyB bd) (hn : ρ B.length = none) (x : RelH w0 O ρ (BH B) w Φ) :
    RelH w0 O (upR ρ B.length (.sl none 0 0)) (BH (B.set k (.cells (cs ++ [.own B.length])) ++ [bd])) w (upF Φ B.length fun _ _ => False) := by
  have hkl : k < B.length := (List.getElem?_eq_some_iff.1 hk).1
  have y := x.adopt hn hb
  have hk2 : upH (BH B) B.length (some bd) k = some (.cells (cs ++ [.raw (.slice none 0 0)])) := by
    unfold upH; rw [if_neg (by omega)]; exact hk
  have z := y.swap (i := k) (bd' := .cells (cs ++ [.own B.length])) hk2 (fun hd hr hh => by
    cases hd with
    | sl a b c => exact hh.elim
    | «at» b base =>
      obtain ⟨q1, q2, q3⟩ := hh
      refine ⟨trivial, ?_, ?_⟩
      · have : (cellsOf (Body.cells (cs ++ [SV.own B.length]))).length = (cellsOf (Body.cells (cs ++ [SV.raw (.slice none 0 0)]))).length := by simp [cellsOf]
        rw [this]; exact q2
      · intro j c hj
        by_cases hlt : j < cs.length
        · refine q3 j c ?_
          have h1 : (cs ++ [SV.own B.length])[j]? = some c := hj
          show (cs ++ [SV.raw (.slice none 0 0)])[j]? = some c
          rw [List.getElem?_append_left hlt] at h1 ⊢
          exact h1
        · have h1 : (cs ++ [SV.own B.length])[j]? = some c := hj
          have hj2 : j = cs.length := by
            have := (List.getElem?_eq_some_iff.1 h1).1
            simp at this; omega
          subst hj2
          simp at h1; subst h1
          obtain ⟨v, a1, a2, a3, a4⟩ := q3 cs.length (.raw (.slice none 0 0)) (by show (cs ++ [SV.raw (.slice none 0 0)])[cs.length]? = _; simp)
          refine ⟨v, a1, ?_, a3, a4⟩
          simp only [DenC] at a2 ⊢
          obtain ⟨e, _⟩ := a2
          simp at e; subst e
          exact ⟨none, 0, 0, by simp [upR], rfl⟩)
  refine relH_funext (fun j => ?_) z
  unfold upH BH
  by_cases e : j = k
  · subst e
    rw [if_pos rfl, List.getElem?_append_left (by simpa using hkl)]
    simp [hkl]
  · rw [if_neg e]
    by_cases e2 : j = B.length
    · subst e2; simp
    · rw [if_neg e2]
      by_cases hjl : j < B.length
      · rw [List.getElem?_append_left (by simpa using hjl), List.getElem?_set_ne (Ne.symm e)]
      · rw [List.getElem?_eq_none (Nat.le_of_not_lt hjl), List.getElem?_eq_none (by simp; omega)]
end

theorem SimC.adoptB {P : Program} {w0 : World} {O : Own} {nT m : Nat} {c : Code} {S S1 : List (Nat × SV)} {B B1 : List Body} {e : Ex} {k : Nat} {cs : List SV} (bd : Body) (hk : B[k]? = some (.cells (cs ++ [.raw (.slice none 0 0)]))) (hb : emptyB bd)
    (h : SimC P w0 O nT c S (B.set k (.cells (cs ++ [.own B.length])) ++ [bd]) e S1 B1 m) : SimC P w0 O nT c S B e S1 B1 m := by
  intro ρ Φ a w r hr
  have hn := hr B.length (Nat.le_refl _)
  have x := relH_adoptB hk hb hn r.heap
  refine wpL_mono (h _ _ a w ⟨r.size, r.defers, fun t' => DenV.mono (Ext.up hn _) (r.tmps t'), x⟩ fun j hj => by
    simp at hj
    simp [upR, show j ≠ B.length by omega]; exact hr j (by omega)) fun e' a' w' ⟨he, ρ', Φ', q1, q2, q3⟩ => ⟨he, ρ', Φ', fun j hd hj hh => q1 j hd hj (Ext.up hn _ j hd hh), q2, q3⟩

theorem FnOk.adoptB {g : Ctx} {f : FuncId} {args : List SV} {B : List Body} {k : Nat} {cs : List SV} {bd bd' : Body} {v v' : SV} {upd upd' : List (Nat × Option Body)} {C C' : List Prop} (hk : B[k]? = some (.cells (cs ++ [.raw (.slice none 0 0)]))) (hb : emptyB bd) (hnd : (upto B.length ++ [B.length + 1]).Nodup)
    (h : FnOk g f args (B.set k (.cells (cs ++ [.own B.length])) ++ [bd]) { val := v, upd, new := [bd'], C })
    (hv : mapC (idx (upto B.length ++ [B.length + 1])) v = v') (hu : ∀ y ∈ upd', y.1 < B.length) {bd2 : Body}
    (hL : ∀ j, j < B.length + 1 → renH (afterH (B.set k (.cells (cs ++ [.own B.length])) ++ [bd]) { val := v, upd, new := [bd'], C }) (upto B.length ++ [B.length + 1]) j = afterH B { val := v', upd := upd', new := [bd2], C := C' } j) :
    FnOk g f args B { val := v', upd := upd', new := [bd2], C := C' } := by
  intro w0 O hG ρ Φ vs w d x hr
  have hn := hr B.length (Nat.le_refl _)
  have hlen : (B.set k (.cells (cs ++ [.own B.length])) ++ [bd]).length = B.length + 1 := by simp
  have hidl : (upto B.length ++ [B.length + 1]).length = B.length + 1 := by simp [upto_length]
  refine (h w0 O hG _ _ vs w (DenT.mono (Ext.up hn _) _ _ d) (relH_adoptB hk hb hn x) (fun j hj => by
    rw [hlen] at hj
    simp [upR, show j ≠ B.length by omega]; exact hr j (by omega))).mono fun u w' ⟨ρ', Φ', p1, p2, p3, p4⟩ => ?_
  refine ⟨inR ρ' (upto B.length ++ [B.length + 1]), inF Φ' (upto B.length ++ [B.length + 1]), ?_, fun j hd hj => ?_, fun j hj => ?_, ?_⟩
  · rw [← hv]; exact denV_map (inR_idx ρ' _) p1
  · have hjl : j < B.length := by
      rcases Nat.lt_or_ge j B.length with e | e
      · exact e
      · rw [hr j e] at hj; simp at hj
    have : (upto B.length ++ [B.length + 1])[j]? = some j := by rw [List.getElem?_append_left (by rw [upto_length]; exact hjl), upto_get, if_pos hjl]
    simp [inR, this]
    exact p2 j hd (Ext.up hn _ j hd hj)
  · simp at hj
    simp [inR, List.getElem?_eq_none (show (upto B.length ++ [B.length + 1]).length ≤ j by omega)]
  · refine relH_funext (fun j => ?_) (relH_ren p4 hnd)
    rcases Nat.lt_or_ge j (B.length + 1) with hj | hj
    · exact hL j hj
    · unfold renH afterH newH
      rw [List.getElem?_eq_none (by omega), newAll_get, if_neg (by simp; omega)]
      simp only [Option.bind_none, Option.map_none]
      rw [updAll_far upd' (BH B) (fun y hy => by have := hu y hy; omega)]
      simp [BH, List.getElem?_eq_none (show B.length ≤ j by omega)]

/-- a chunk that stays, told of under a new number -/
theorem FnOk.shift {g : Ctx} {f : FuncId} {args : List SV} {B : List Body} {i : Nat} {v v' : SV} {upd upd' : List (Nat × Option Body)} {C C' : List Prop} {bd : Body} (ids : List Nat) (hi : i < B.length) (hlen : ids.length = B.length + 1) (hnd : ids.Nodup)
    (h1 : ∀ j, j < B.length → j ≠ i → ids[j]? = some j) (h2 : ids[i]? = some (B.length + 1))
    (h : FnOk g f args B { val := v, upd, C }) (hv : mapC (idx ids) v = v') (hu : ∀ y ∈ upd', y.1 < B.length)
    (hL : ∀ j, j < B.length + 1 → renH (afterH B { val := v, upd, C }) ids j = afterH B { val := v', upd := upd', new := [bd], C := C' } j) :
    FnOk g f args B { val := v', upd := upd', new := [bd], C := C' } := by
  intro w0 O hG ρ Φ vs w d x hr
  refine (h w0 O hG ρ Φ vs w d x hr).mono fun u w' ⟨ρ', Φ', p1, p2, p3, p4⟩ => ?_
  have hE : Ext (inR ρ' ids) (fun j => if j = i then ρ' i else inR ρ' ids j) := fun j hd hj => by
    by_cases e : j = i
    · subst e
      simp only [inR, h2, Option.bind_some] at hj
      rw [p3 (B.length + 1) (by simp)] at hj
      simp at hj
    · simp only [if_neg e]; exact hj
  refine ⟨fun j => if j = i then ρ' i else inR ρ' ids j, inF Φ' ids, ?_, fun j hd hj => ?_, fun j hj => ?_, ?_⟩
  · rw [← hv]; exact DenV.mono hE (denV_map (inR_idx ρ' ids) p1)
  · have hjl : j < B.length := by
      rcases Nat.lt_or_ge j B.length with e | e
      · exact e
      · rw [hr j e] at hj; simp at hj
    by_cases e : j = i
    · subst e; simp; exact p2 j hd hj
    · simp only [if_neg e]
      simp [inR, h1 j hjl e]
      exact p2 j hd hj
  · simp at hj
    show (if j = i then ρ' i else inR ρ' ids j) = none
    rw [if_neg (by omega)]
    simp [inR, List.getElem?_eq_none (show ids.length ≤ j by omega)]
  · refine relH_funext (fun j => ?_) ((relH_ren p4 hnd).mono hE)
    rcases Nat.lt_or_ge j (B.length + 1) with hj | hj
    · exact hL j hj
    · unfold renH afterH newH
      rw [List.getElem?_eq_none (by omega), newAll_get, if_neg (by simp; omega)]
      simp only [Option.bind_none, Option.map_none]
      rw [updAll_far upd' (BH B) (fun y hy => by have := hu y hy; omega)]
      simp [BH, List.getElem?_eq_none (show B.length ≤ j by omega)]

theorem impL_app : ∀ {a c b d : List SV}, ImpL a c → ImpL b d → ImpL (a ++ b) (c ++ d)
  | [], [], _, _, _, h => h
  | x :: a, y :: c, b, d, h, h2 => ⟨h.1, impL_app h.2 h2⟩
  | [], _ :: _, _, _, h, _ => h.elim
  | _ :: _, [], _, _, h, _ => h.elim
theorem ro_facts {w0 : World} {O : Own} {ρ : Rho} {sz n : Nat} {f : Nat → SV} {v : Value} (h : DenV w0 O ρ (.ro sz n f) v) : ∀ i, i < n → factsC (f i) := fun i hi => by
  rcases h with h | ⟨_, h⟩
  · simp at h
  · simp only [DenC] at h
    obtain ⟨a, cap, _, _, h3⟩ := h
    obtain ⟨b, o, _, h4⟩ := h3 (by omega)
    obtain ⟨us, _, _, h5⟩ := h4 i hi
    exact denC_facts _ _ h5
end Go.Vx
