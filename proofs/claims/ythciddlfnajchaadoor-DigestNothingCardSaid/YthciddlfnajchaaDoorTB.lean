/- Accounts of this seat's functions: lemmas, no statement of their own. No conditions. -/
import Derived.Test.YthciddlfnajchaaDoorTR
namespace Go.Proofs.Tryd
open Go Go.Vx

def eventsF : SumF := fun args B => match args, B with
  | [.ptr 0 0], [.log l] => some { val := .own 1, new := [.rows [.i64, .i64] l], C := [l.length * 16 ≤ 2 ^ 47] }
  | _, _ => none
theorem acc22 : Acc gx 22 eventsF := by
  intro args B out h hC
  unfold eventsF at h
  split at h
  · simp only [Option.some.injEq] at h; subst h
    exact events_acc _ (hC _ (by simp))
  · simp at h
noncomputable abbrev g1 : Ctx := gx.add [(48, opF), (18, newF), (36, totalF), (32, ifF), (38, atF), (22, eventsF)]
theorem g1_ok : CtxU g1 := gx_ok.add mixed noGo (by
  intro x hx
  simp only [List.mem_cons, List.not_mem_nil, or_false] at hx
  rcases hx with rfl | rfl | rfl | rfl | rfl | rfl
  · exact acc48
  · exact acc18
  · exact acc36
  · exact acc32
  · exact acc38
  · exact acc22)
end Go.Proofs.Tryd
