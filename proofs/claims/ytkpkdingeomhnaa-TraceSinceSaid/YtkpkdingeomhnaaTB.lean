/- Accounts of this seat's functions: lemmas, no statement of their own. No conditions. -/
import Derived.Test.YtkpkdingeomhnaaTR
namespace Go.Proofs.Ytkpkdingeomhnaa
open Go Go.Vx

def eventsF : SumF := fun args B => match args, B with
  | [.ptr 0 0], [.log l] => some { val := .own 1, new := [.rows [.i64, .i64] l], C := [l.length * 16 ≤ 2 ^ 47] }
  | _, _ => none
theorem acc20 : Acc gx 20 eventsF := by
  intro args B out h hC
  unfold eventsF at h
  split at h
  · simp only [Option.some.injEq] at h; subst h
    exact events_acc _ (hC _ (by simp))
  · simp at h
noncomputable abbrev g1 : Ctx := gx.add [(9, newF), (18, totalF), (19, opF), (28, ifF), (29, atF), (20, eventsF)]
theorem g1_ok : CtxU g1 := gx_ok.add mixed noGo (by
  intro x hx
  simp only [List.mem_cons, List.not_mem_nil, or_false] at hx
  rcases hx with rfl | rfl | rfl | rfl | rfl | rfl
  · exact acc9
  · exact acc18
  · exact acc19
  · exact acc28
  · exact acc29
  · exact acc20)
abbrev stepA (k v : Int) (b : Bool) : SV := .agg [.int .i64 k, .int .i64 v, .sbool b]
end Go.Proofs.Ytkpkdingeomhnaa
