/- Accounts of this seat's functions: lemmas, no statement of their own. No conditions. -/
import Derived.Test.YtibfgdbkobgemaaTC
namespace Go.Proofs.Ytibfgdbkobgemaa
open Go Go.Vx

/-! ### PrimeSums -/
def cC (o s : Nat → Int) : Nat → Int
  | 0 => 0
  | i + 1 => (cC o s i + o i + s i).tdiv 256
def fitsL (o s : Nat → Int) : Nat → Nat → List Prop
  | 0, _ => []
  | n + 1, i => Fits .i64 (cC o s i + o i + s i) :: Fits .i64 (cC o s i + o i) :: fitsL o s n (i + 1)
def neqL (x : List Int) : Nat → Nat → List Prop
  | 0, _ => []
  | n + 1, i => ((!decide (sumN x (List.replicate 16 0) i = bytesN x i)) = false) :: neqL x n (i + 1)
theorem sums_run (a s : Nat → Int) : runF g5 300 (List.replicate 16 (.br false) ++ [.br true]) 6 [.agg (svF (List.replicate 17 .u8) a 0), .agg (svF (List.replicate 16 .u8) s 0)] [] [] =
    (let x := L5 (blockN (listF 17 a 0))
     some (SV.bool true, [], fitsL (bytesN x) s 16 0 ++ (neqL x 16 0 ++ [decide (listF 16 (sumN x (listF 16 s 0)) 0 = listF 16 (fun i => scut .u8 ((cC (bytesN x) s i + bytesN x i + s i).tmod 256)) 0) = true]))) := by kernel_rfl

theorem sumN_eq {x l : List Int} (hl : ∀ j, j < 16 → Byte (atL l j)) : listF 16 (sumN x l) 0 = listF 16 (byteN (leN 16 (bytesN x) 0 + leN 16 (atL l) 0)) 0 := by
  rw [← sum_spec (fun j _ => bytesN_byte x j) hl]
  rfl
theorem cC_carry {o s s' : Nat → Int} (ho : ∀ j, Byte (o j)) (hs : ∀ j, Byte (s' j)) (he : ∀ j, j < 16 → s' j = s j) : ∀ i, i ≤ 16 → cC o s i = carry o s' i ∧ 0 ≤ carry o s' i ∧ carry o s' i ≤ 1
  | 0, _ => ⟨rfl, by simp [carry], by simp [carry]⟩
  | i + 1, hi => by
    obtain ⟨h1, h2, h3⟩ := cC_carry ho hs he i (by omega)
    have ho := ho i
    have hs' := hs i
    unfold Byte at ho hs'
    simp only [cC, carry]
    rw [h1, ← he i (by omega)]
    refine ⟨Int.tdiv_eq_ediv_of_nonneg (by omega), ?_, ?_⟩ <;> omega
theorem fits_small {n : Int} (h0 : 0 ≤ n) (h1 : n < 1000) : Fits .i64 n := by
  constructor
  · show (-9223372036854775808 : Int) ≤ _; omega
  · show _ ≤ (9223372036854775807 : Int); omega
theorem fitsL_ok {o s : Nat → Int} (h : ∀ i, i < 16 → 0 ≤ cC o s i ∧ cC o s i ≤ 1 ∧ Byte (o i) ∧ Byte (s i)) : ∀ n i, i + n ≤ 16 → AllC (fitsL o s n i)
  | 0, _, _ => by simp [fitsL, AllC]
  | n + 1, i, hi => by
    obtain ⟨h1, h2, h3, h4⟩ := h i (by omega)
    unfold Byte at h3 h4
    simp only [fitsL, allC_cons]
    exact ⟨fits_small (by omega) (by omega), fits_small (by omega) (by omega), fitsL_ok h n (i + 1) (by omega)⟩
theorem neqL_ok {x : List Int} (h : ∀ i, i < 16 → sumN x (List.replicate 16 0) i = bytesN x i) : ∀ n i, i + n ≤ 16 → AllC (neqL x n i)
  | 0, _, _ => by simp [neqL, AllC]
  | n + 1, i, hi => by
    simp only [neqL, allC_cons]
    exact ⟨by rw [h i (by omega)]; simp, neqL_ok h n (i + 1) (by omega)⟩
theorem allC_app {C D : List Prop} (h : AllC C) (h' : AllC D) : AllC (C ++ D) := fun p hp => by
  rcases List.mem_append.1 hp with q | q
  · exact h p q
  · exact h' p q
theorem sums_ok (a s : Nat → Int) : FnOk g5 6 [.agg (svF (List.replicate 17 .u8) a 0), .agg (svF (List.replicate 16 .u8) s 0)] [] { val := .bool true } := by
  refine FnOk.facts fun ⟨_, hs, _⟩ => ?_
  refine FnOk.pure g5_ok (sums_run a s) ?_
  have hb : ∀ i, i < 16 → Byte (s i) := fun i hi => facts8 hs i hi
  generalize L5 (blockN (listF 17 a 0)) = x
  have hl : ∀ j, j < 16 → atL (listF 16 s 0) j = s j := fun j hj => atL_listF hj
  have hlb : ∀ j, Byte (atL (listF 16 s 0) j) := fun j => getD_byte _ _ fun y hy => by
    obtain ⟨i, hi⟩ := List.getElem?_of_mem hy
    rw [listF_get] at hi
    split at hi
    · simp only [Option.some.injEq, Nat.zero_add] at hi; subst hi; exact hb i (by assumption)
    · simp at hi
  have hc := cC_carry (o := bytesN x) (s := s) (bytesN_byte x) hlb hl
  refine allC_app (fitsL_ok (fun i hi => ?_) 16 0 (by decide)) (allC_app (neqL_ok (fun i hi => ?_) 16 0 (by decide)) ?_)
  · obtain ⟨h1, h2, h3⟩ := hc i (by omega)
    exact ⟨by omega, by omega, bytesN_byte x i, hb i hi⟩
  · have h0 : ∀ j, j < 16 → Byte (atL (List.replicate 16 0) j) := fun j hj => getD_byte _ _ fun y hy => by
      rw [List.eq_of_mem_replicate hy]; exact ⟨by decide, by decide⟩
    have e := sumN_eq (x := x) h0
    rw [listF_eq0] at e
    rw [e i hi, show leN 16 (atL (List.replicate 16 0)) 0 = 0 from by decide, Int.add_zero, byte_leN 16 0 (fun j _ => by rw [Nat.zero_add]; exact bytesN_byte x j) i hi, Nat.zero_add]
  · rw [allC_cons, allC_nil]
    refine ⟨?_, trivial⟩
    rw [decide_eq_true_iff, sumN_eq fun j hj => hlb j, listF_eq0]
    intro i hi
    rw [carry_byte (fun j => (bytesN_byte x j).1) (fun j => (hlb j).1) hi]
    obtain ⟨h1, h2, h3⟩ := hc i (by omega)
    have h4 := bytesN_byte x i
    have h5 := hb i hi
    unfold Byte at h4 h5
    rw [h1, hl i hi]
    unfold scut
    rw [Int.tmod_eq_emod_of_nonneg (by omega)]
    show _ = _ % 256 % (256 : Int)
    omega
end Go.Proofs.Ytibfgdbkobgemaa
