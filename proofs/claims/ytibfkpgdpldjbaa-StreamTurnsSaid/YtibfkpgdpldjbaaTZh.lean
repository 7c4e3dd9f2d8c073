/- Accounts of this seat's functions: lemmas, no statement of their own. No conditions. -/
import Derived.Test.YtibfkpgdpldjbaaTZe
namespace Go.Proofs.Ytibfkpgdpldjbaa
open Go Go.Vx
def it (a : Int) : Nat → Int
  | 0 => a
  | n + 1 => (it a n).tdiv 256
def ob (x s : Nat → Int) (j : Nat) : Int := scut .u8 ((it ((x (j / 4) + s (j / 4)).tmod M) (j % 4)).tmod 256)
def obC (x s : Nat → Int) : List Prop := [Fits .i64 (x 0 + s 0), Fits .i64 (x 1 + s 1), Fits .i64 (x 2 + s 2), Fits .i64 (x 3 + s 3), Fits .i64 (x 4 + s 4), Fits .i64 (x 5 + s 5), Fits .i64 (x 6 + s 6), Fits .i64 (x 7 + s 7), Fits .i64 (x 8 + s 8), Fits .i64 (x 9 + s 9), Fits .i64 (x 10 + s 10), Fits .i64 (x 11 + s 11), Fits .i64 (x 12 + s 12), Fits .i64 (x 13 + s 13), Fits .i64 (x 14 + s 14), Fits .i64 (x 15 + s 15)]
theorem blk_run (k : Nat → Int) (c : Int) (n : Nat → Int) : runF g8 4000 [.loop 4 rbKeep 3 (.exit 0) (mkLoopN rbG)] 16 [.agg (k32 k), .int .u32 c, .agg (n12 n)] [] [] = some (.agg (b64 (ob (yN 10 (Lf (stt k c n))) (stt k c n))), [],
  [BN 32 (atL (listF 32 k 0)), BN 12 (atL (listF 12 n 0)), LoopGood g8 84 (.loop rbBody) rbKeep 3 (.exit 0) (mkLoopN rbG), U16 (Lf (stt k c n))] ++ obC (yN 10 (Lf (stt k c n))) (stt k c n)) :=
  run_parts (by kernel_rfl) (by kernel_rfl) (by kernel_rfl)
end Go.Proofs.Ytibfkpgdpldjbaa
