/- Accounts of this seat's functions: lemmas, no statement of their own. No conditions. -/
import Derived.Test.YtofcclenjblhkaaA
namespace Go.Proofs.Ytofcclenjblhkaa
open Go.Vx

abbrev ones (c : Prop) [Decidable c] : Int := if c then 1 else 0
def sumC (a b : Int) : Prop := (!decide (Int.ofNat (((Int.ofNat (((ones (a < b)).toNat + (ones (b < a)).toNat) % modulus .u64)).toNat + (ones (a = b)).toNat) % modulus .u64) = 1)) = false
abbrev mE (a b : Int) : Int := if ones (a < b) % 2 = 1 then a else b
def keyC (k l : Nat → Int) : List Prop :=
  [decide (ones (listF 32 l 0 = listF 32 (fun i => if (0 : Int) % 2 = 1 then k i else l i) 0) = 1) = true, decide (ones (listF 32 k 0 = listF 32 (fun i => if (1 : Int) % 2 = 1 then k i else l i) 0) = 1) = true]
abbrev oargs (a b c : Int) (k l : Nat → Int) : List SV := [.int .u64 a, .int .u64 b, .int .u64 c, .agg (svF (List.replicate 32 .u8) k 0), .agg (svF (List.replicate 32 .u8) l 0)]

theorem ordA (a b c : Int) (k l : Nat → Int) : runF g1 200 [.br false, .br true, .br true, .br false, .br false, .br false, .br false, .br true, .br true] 7 (oargs a b c k l) [] [] =
    some (.bool true, [], [sumC a b, decide (ones (b < c) = 1) = true, decide (ones (a < b) = 1) = true, (!decide (ones (a < c) = 1)) = false, (!decide (ones (a < mE a b) = 0)) = false, (!decide (mE a b = a)) = false, (!decide (ones (b < mE a b) = 0)) = false] ++ keyC k l) := by kernel_rfl
theorem ordB (a b c : Int) (k l : Nat → Int) : runF g1 200 [.br false, .br true, .br false, .br false, .br false, .br false, .br true, .br true] 7 (oargs a b c k l) [] [] =
    some (.bool true, [], [sumC a b, decide (ones (b < c) = 1) = false, decide (ones (a < b) = 1) = true, (!decide (ones (a < mE a b) = 0)) = false, (!decide (mE a b = a)) = false, (!decide (ones (b < mE a b) = 0)) = false] ++ keyC k l) := by kernel_rfl
theorem ordC (a b c : Int) (k l : Nat → Int) : runF g1 200 [.br false, .br false, .br false, .br false, .br false, .br true, .br true] 7 (oargs a b c k l) [] [] =
    some (.bool true, [], [sumC a b, decide (ones (a < b) = 1) = false, (!decide (ones (a < mE a b) = 0)) = false, (!decide (mE a b = a)) = false, (!decide (ones (b < mE a b) = 0)) = false] ++ keyC k l) := by kernel_rfl
theorem ordD (a b c : Int) (k l : Nat → Int) : runF g1 200 [.br false, .br false, .br true, .br false, .br false, .br false, .br true, .br true] 7 (oargs a b c k l) [] [] =
    some (.bool true, [], [sumC a b, decide (ones (a < b) = 1) = false, (!decide (ones (a < mE a b) = 0)) = false, (!decide (mE a b = b)) = false, (!decide (mE a b = a)) = true, (!decide (ones (b < mE a b) = 0)) = false] ++ keyC k l) := by kernel_rfl

theorem keyC_ok (k l : Nat → Int) : AllC (keyC k l) := by
  simp only [keyC, allC_cons, allC_nil, and_true]
  exact ⟨by simp, by simp⟩
theorem sumC_ok (a b : Int) : sumC a b := by
  unfold sumC ones
  rcases Int.lt_trichotomy a b with h | h | h
  · have h2 : ¬ b < a := by omega
    have h3 : ¬ a = b := by omega
    simp [h, h2, h3, modulus]
  · subst h; simp [modulus]
  · have h2 : ¬ a < b := by omega
    have h3 : ¬ a = b := by omega
    simp [h, h2, h3, modulus]

theorem orders_ok (a b c : Int) (k l : Nat → Int) : FnOk g1 7 (oargs a b c k l) [] { val := .bool true } := by
  have hs := sumC_ok a b
  have hk := keyC_ok k l
  by_cases h1 : a < b
  · have e1 : mE a b = a := by simp [mE, ones, h1]
    have h3 : ¬ b < a := by omega
    by_cases h2 : b < c
    · have h4 : a < c := by omega
      refine FnOk.pure g1_ok (ordA a b c k l) ?_
      rw [e1]
      simp only [List.cons_append, List.nil_append, allC_cons]
      simp [hs, hk, h1, h2, h3, h4]
    · refine FnOk.pure g1_ok (ordB a b c k l) ?_
      rw [e1]
      simp only [List.cons_append, List.nil_append, allC_cons]
      simp [hs, hk, h1, h2, h3]
  · have e1 : mE a b = b := by simp [mE, ones, h1]
    by_cases h2 : a = b
    · subst h2
      refine FnOk.pure g1_ok (ordC a a c k l) ?_
      rw [e1]
      simp only [List.cons_append, List.nil_append, allC_cons]
      simp [hs, hk]
    · have h3 : ¬ b = a := by omega
      refine FnOk.pure g1_ok (ordD a b c k l) ?_
      rw [e1]
      simp only [List.cons_append, List.nil_append, allC_cons]
      simp [hs, hk, h1, h3]
end Go.Proofs.Ytofcclenjblhkaa
