/- Accounts of this seat's functions: lemmas, no statement of their own. No conditions. -/
import Derived.Test.YtibfkpgdpldjbaaTD
namespace Go.Proofs.Ytibfkpgdpldjbaa
open Go Go.Vx
theorem four_run (q : Nat) (l : List Int) (s : Nat → Int) : runF g2 3000 (.loop 18 frKeep 3 (.exit 6) (mkLoopN frG) :: List.replicate 64 (.loop 36 fiKeep 3 (.exit 12) (mkLoopN fiG))) 28 [.agg (w16 s), .sptr 0 0 q 1 0] [.ints .u8 l] [] =
    some (.tuple [], [some (.ints .u8 (fourL l q (fw (atL (listF 64 (bg s) 0)))))], LoopGood g2 127 (.loop frBody) frKeep 3 (.exit 6) (mkLoopN frG) :: fourCs q (fw (atL (listF 64 (bg s) 0))) ord4 l) := by kernel_rfl
end Go.Proofs.Ytibfkpgdpldjbaa
