/- Accounts of this seat's functions: lemmas, no statement of their own. No conditions. -/
import Derived.Test.YtibfgdbkobgemaaTD
namespace Go.Proofs.Ytibfgdbkobgemaa
open Go Go.Vx

/-! ### PrimeFolds -/
def lowL (a : Nat → Int) : List Int := [a 0, a 1, a 2, a 3, a 4, a 5, a 6, a 7, a 8, a 9, a 10, a 11, a 12, a 13, a 14, a 15, urem (a 16) 4]
def oneL (x : Int) : List Int := [x, 0, 0, 0, 0, 0, 0, 0, 0, 0, 0, 0, 0, 0, 0, 0, 0]
theorem folds_run (a : Nat → Int) : runF g5 300 [.br true] 5 [.agg (svF (List.replicate 17 .u8) a 0)] [] [] =
    some (SV.bool true, [], [decide (BS (L5 (addN (L5 (blockN (lowL a))) (L5 (mulN (L5 (blockN (oneL (uquo (a 16) 4)))) (L5 (blockN (oneL 5))))))) = BS (L5 (blockN (listF 17 a 0)))) = true]) := by kernel_rfl
theorem Is.cong {x : List Int} {n m : Int} (h : Is x n) (e : n % P5 = m % P5) : Is x m := ⟨h.1, h.2.trans e⟩
theorem uquoE {a : Int} (m : Nat) (ha : 0 ≤ a) : uquo a (m : Int) = a / (m : Int) := by
  obtain ⟨x, rfl⟩ := Int.eq_ofNat_of_zero_le ha
  show Int.ofNat ((x : Int).toNat / (m : Int).toNat) = _
  simp only [Int.toNat_natCast, Int.ofNat_eq_natCast]
  rw [Int.natCast_ediv]
theorem uremE {a : Int} (m : Nat) (ha : 0 ≤ a) : urem a (m : Int) = a % (m : Int) := by
  obtain ⟨x, rfl⟩ := Int.eq_ofNat_of_zero_le ha
  show Int.ofNat ((x : Int).toNat % (m : Int).toNat) = _
  simp only [Int.toNat_natCast, Int.ofNat_eq_natCast]
  rw [Int.natCast_emod]
theorem one_byte {x : Int} (h : Byte x) (i : Nat) : Byte (atL (oneL x) i) := getD_byte _ i fun y hy => by
  simp only [oneL, List.mem_cons, List.not_mem_nil, or_false] at hy
  rcases hy with e | e | e | e | e | e | e | e | e | e | e | e | e | e | e | e | e <;> rw [e] <;> first | exact h | exact ⟨by decide, by decide⟩
theorem one_le (x : Int) : leN 17 (atL (oneL x)) 0 = x := by
  have e := leN_add 1 16 (atL (oneL x)) 0
  have h0 : leN 16 (atL (oneL x)) (0 + 1) = 0 := rfl
  rw [h0, Int.mul_zero, Int.add_zero] at e
  rw [show (17 : Nat) = 1 + 16 from rfl, e]
  show x + 256 * 0 = x
  omega
theorem leN_cong : ∀ {n : Nat} {f f' : Nat → Int} {i : Nat}, (∀ j, j < n → f (i + j) = f' (i + j)) → leN n f i = leN n f' i
  | 0, _, _, _, _ => rfl
  | n + 1, f, f', i, h => by
    simp only [leN]
    rw [show f i = f' i from h 0 (by omega), leN_cong (f := f) (f' := f') (i := i + 1) fun j hj => by
      have := h (j + 1) (by omega)
      rwa [show i + (j + 1) = i + 1 + j by omega] at this]
set_option maxHeartbeats 1000000 in
theorem folds_ok (a : Nat → Int) : FnOk g5 5 [.agg (svF (List.replicate 17 .u8) a 0)] [] { val := .bool true } := by
  refine FnOk.facts fun ⟨ha, _⟩ => ?_
  refine FnOk.pure g5_ok (folds_run a) ?_
  have hb : ∀ i, i < 17 → Byte (a i) := fun i hi => facts8 ha i hi
  have h16 : 0 ≤ a 16 ∧ a 16 < 256 := hb 16 (by decide)
  have er : urem (a 16) 4 = a 16 % 4 := uremE 4 h16.1
  have eq : uquo (a 16) 4 = a 16 / 4 := uquoE 4 h16.1
  have lowb : ∀ i, i < 17 → Byte (atL (lowL a) i) := by
    intro i hi
    match i, hi with
    | 0, _ => exact hb 0 (by decide)
    | 1, _ => exact hb 1 (by decide)
    | 2, _ => exact hb 2 (by decide)
    | 3, _ => exact hb 3 (by decide)
    | 4, _ => exact hb 4 (by decide)
    | 5, _ => exact hb 5 (by decide)
    | 6, _ => exact hb 6 (by decide)
    | 7, _ => exact hb 7 (by decide)
    | 8, _ => exact hb 8 (by decide)
    | 9, _ => exact hb 9 (by decide)
    | 10, _ => exact hb 10 (by decide)
    | 11, _ => exact hb 11 (by decide)
    | 12, _ => exact hb 12 (by decide)
    | 13, _ => exact hb 13 (by decide)
    | 14, _ => exact hb 14 (by decide)
    | 15, _ => exact hb 15 (by decide)
    | 16, _ =>
      show Byte (urem (a 16) 4)
      rw [er]; exact ⟨by omega, by omega⟩
    | i + 17, h => exact absurd h (by omega)
  have i1 := is_block lowb
  have i2 := is_block (l := oneL (uquo (a 16) 4)) fun i _ => one_byte (by rw [eq]; exact ⟨by omega, by omega⟩) i
  have i3 := is_block (l := oneL 5) fun i _ => one_byte ⟨by decide, by decide⟩ i
  have i4 := is_block (bytes_list ha)
  have hn := is_add i1 (is_mul i2 i3)
  rw [one_le, one_le] at hn
  rw [allC_cons, allC_nil]
  refine ⟨?_, trivial⟩
  rw [decide_eq_true_iff]
  refine eq_of (m := leN 17 (atL (lowL a)) 0 + uquo (a 16) 4 * 5) hn (i4.cong ?_) rfl
  have e1 : leN 17 (atL (listF 17 a 0)) 0 = leN 17 a 0 := leN_cong fun j hj => by rw [Nat.zero_add]; exact atL_listF hj
  have e2 := leN_add 16 1 a 0
  have e3 := leN_add 16 1 (atL (lowL a)) 0
  have e4 : leN 1 a (0 + 16) = a 16 := by simp only [leN, Nat.zero_add]; omega
  have e5 : leN 1 (atL (lowL a)) (0 + 16) = a 16 % 4 := by simp only [leN]; rw [show atL (lowL a) (0 + 16) = urem (a 16) 4 from rfl, er]; omega
  have e6 : leN 16 (atL (lowL a)) 0 = leN 16 a 0 := leN_cong fun j hj => by
    rw [Nat.zero_add]
    match j, hj with
    | 0, _ => rfl
    | 1, _ => rfl
    | 2, _ => rfl
    | 3, _ => rfl
    | 4, _ => rfl
    | 5, _ => rfl
    | 6, _ => rfl
    | 7, _ => rfl
    | 8, _ => rfl
    | 9, _ => rfl
    | 10, _ => rfl
    | 11, _ => rfl
    | 12, _ => rfl
    | 13, _ => rfl
    | 14, _ => rfl
    | 15, _ => rfl
    | i + 16, h => exact absurd h (by omega)
  have e7 : ((256 ^ 16 : Nat) : Int) = 340282366920938463463374607431768211456 := rfl
  rw [e4, e7] at e2
  rw [e5, e6, e7] at e3
  have g2 : leN 17 a 0 = leN 16 a 0 + 340282366920938463463374607431768211456 * a 16 := e2
  have g3 : leN 17 (atL (lowL a)) 0 = leN 16 a 0 + 340282366920938463463374607431768211456 * (a 16 % 4) := e3
  have key : leN 17 (atL (lowL a)) 0 + uquo (a 16) 4 * 5 = leN 17 (atL (listF 17 a 0)) 0 - P5 * (a 16 / 4) := by
    rw [e1, g2, g3, eq]; unfold P5; omega
  rw [key, sub_mod]
end Go.Proofs.Ytibfgdbkobgemaa
