/- Accounts of this seat's functions: lemmas, no statement of their own. No conditions. -/
import Derived.Test.YtejcjdhplpjpjaaTR
namespace Go.Proofs.Ytejcjdhplpjpjaa
open Go Go.Vx

def eventsF : SumF := fun args B => match args, B with
  | [.ptr 0 0], [.log l] => some { val := .own 1, new := [.rows [.i64, .i64] l], C := [l.length * 16 ≤ 2 ^ 47] }
  | _, _ => none
theorem acc26 : Acc gx 26 eventsF := by
  intro args B out h hC
  unfold eventsF at h
  split at h
  · simp only [Option.some.injEq] at h; subst h
    exact events_acc _ (hC _ (by simp))
  · simp at h
noncomputable abbrev g1 : Ctx := gx.add [(69, opF), (19, newF), (20, totalF), (36, ifF), (37, atF), (26, eventsF)]
theorem g1_ok : CtxU g1 := gx_ok.add mixed noGo (by
  intro x hx
  simp only [List.mem_cons, List.not_mem_nil, or_false] at hx
  rcases hx with rfl | rfl | rfl | rfl | rfl | rfl
  · exact acc69
  · exact acc19
  · exact acc20
  · exact acc36
  · exact acc37
  · exact acc26)
end Go.Proofs.Ytejcjdhplpjpjaa
