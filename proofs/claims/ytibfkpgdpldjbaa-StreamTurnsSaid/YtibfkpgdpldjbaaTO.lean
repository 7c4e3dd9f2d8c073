/- Accounts of this seat's functions: lemmas, no statement of their own. No conditions. -/
import Derived.Test.YtibfkpgdpldjbaaTM
namespace Go.Proofs.Ytibfkpgdpldjbaa
open Go Go.Vx
theorem kn_run : runF g4 3000 [.br true, .br true, .br true, .br true, .br true, .br true] 13 [] [] [] =
    some (.sbool true, [], [(0 : Nat) < 1099511627776, (4 : Nat) ≤ 4, (4 : Nat) ≤ 1000000000, Fits .u32 1, (5 : Nat) ≤ 1000000000000, true = true, true = true, true = true, true = true, true = true]) := by kernel_rfl
def F13 : SumF := fun args B => match args, B with
  | [], [] => some { val := .sbool true }
  | _, _ => none
theorem acc13 : Acc g4 13 F13 := by
  intro args B out h hC
  unfold F13 at h
  split at h
  · simp only [Option.some.injEq] at h; subst h
    have F1 : Fits .u32 1 := by constructor <;> decide
    exact FnOk.pure g4_ok kn_run (by (simp only [allC_cons, allC_nil, and_true]; repeat' (with_reducible (first | refine And.intro ?_ ?_ | exact True.intro | assumption | omega | exact decide_eq_true (by first | assumption | omega) | exact decide_eq_false (by first | assumption | omega) | rfl | (simp; done)))))
  · simp at h
noncomputable abbrev g5 : Ctx := g4.add [(13, F13)]
theorem g5_ok : CtxU g5 := g4_ok.add mixed noGo (by
  intro x hx
  simp only [List.mem_cons, List.not_mem_nil, or_false] at hx
  rcases hx with rfl
  exact acc13)
end Go.Proofs.Ytibfkpgdpldjbaa
