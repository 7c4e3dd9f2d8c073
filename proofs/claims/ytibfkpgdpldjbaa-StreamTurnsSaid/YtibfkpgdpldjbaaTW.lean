/- Accounts of this seat's functions: lemmas, no statement of their own. No conditions. -/
import Derived.Test.YtibfkpgdpldjbaaTV
namespace Go.Proofs.Ytibfkpgdpldjbaa
open Go Go.Vx
noncomputable abbrev g6 : Ctx := g5.add [(23, F23)]
theorem g6_ok : CtxU g6 := g5_ok.add mixed noGo (by
  intro x hx
  simp only [List.mem_cons, List.not_mem_nil, or_false] at hx
  rcases hx with rfl
  exact acc23)
end Go.Proofs.Ytibfkpgdpldjbaa
