/- Accounts of this seat's functions: lemmas, no statement of their own. No conditions. -/
import Derived.Test.YtghdadkpbofbbaaTH
import Derived.Test.YtghdadkpbofbbaaV4
namespace Go.Proofs.Ytghdadkpbofbbaa
open Go Go.Vx
/-! ### same -/
theorem same_run (la lb : List Int) : runF gG 200 [] 18 [.agg (svF (List.replicate 5 .u64) (atL la) 0), .agg (svF (List.replicate 5 .u64) (atL lb) 0)] [] [] = some (.sbool (decide (BS (L5 (atL la)) = BS (L5 (atL lb)))), [], []) := by kernel_rfl
def sameF : SumF := fun args B => match args, B with
  | [.agg xs, .agg ys], [] => match numsAs (List.replicate 5 .u64) xs, numsAs (List.replicate 5 .u64) ys with
    | some la, some lb => some { val := .sbool (decide (BS (L5 (atL la)) = BS (L5 (atL lb)))) }
    | _, _ => none
  | _, _ => none
theorem acc18 : Acc gG 18 sameF := by
  intro args B out h _
  unfold sameF at h
  split at h
  · split at h
    · rename_i la lb ha hb
      simp only [Option.some.injEq] at h; subst h
      exact FnOk.imp (FnOk.pure gG_ok (same_run la lb) (by simp [AllC])) ⟨nums_imp ha, nums_imp hb, trivial⟩
    · simp at h
  · simp at h
noncomputable abbrev gH : Ctx := gG.add [(18, sameF)]
theorem gH_ok : CtxU gH := gG_ok.add mixed noGo (by
  intro x hx
  simp only [List.mem_cons, List.not_mem_nil, or_false] at hx
  rcases hx with rfl
  exact acc18)
end Go.Proofs.Ytghdadkpbofbbaa
