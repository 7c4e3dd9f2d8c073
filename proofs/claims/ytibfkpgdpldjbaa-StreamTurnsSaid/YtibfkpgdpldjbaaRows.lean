/-
  No cell of these rows narrows 'for every input' (looked for: loops, veiled, ifaces, maps, wideKeys, modest, calm, conditions, laid).
  DERIVED. THE GIVEN ROWS OF THIS SEAT. 6 by the template 'for every input the law returns true; each argument reads behind the call as it read before'; 0 by the template 'total and deterministic' (their statements: YtibfkpgdpldjbaaTotals.lean).
  GIVEN WITH THE SEED: the statements are not yours to turn. If you find one false, say at which input.
  Laid BY PROGRAM, IN A SANDBOX (cutbox-rows.mjs): the forced cells as the released guide's own fill.sh prints them over the translation 2ad1c333b74dc74f… (all of the seat's roots in one cut). By AI agents, Wed Nov 11 2026. No macro, syntax, notation, axiom, sorry.
-/
import Derived.Test.YtibfkpgdpldjbaaChecked
import GoSem.Claim
import GoSem.ClaimJoined
import GoSem.ClaimMapViews
import Derived.JoinedTies
import Derived.KernelRfl
namespace Go.Proofs.Ytibfkpgdpldjbaa
/- THE CELL 'sum', in the pinned program and in every row, IS THE sha256 OF THE DUMP (.gsa) THAT YtibfkpgdpldjbaaProg.lean LOADS. Nothing in Lean hashes anything: it is a label: what it is worth is what the hold of that sum in a sandbox is worth. -/
noncomputable def Try.pinned : Pinned := { name := "ytibfkpgdpldjbaa", sum := "2ad1c333b74dc74ff4837c545e49c9fa6986b5a97849964044a6e553c05c2fc6", checked := Try.checked }
namespace Rows
def none {H : Type} : Left H := { results := [], args := [] }

/-- 'pintlelaw6.StreamBack': WHATEVER THE INPUT: true; the input reads as it did. -/
def streamBackSpec : ChangeSpec := { name := "streamBack", fn := fun _ => fun
  | [d1, d2, d3, d4] => { results := [.lit (.bool true)], args := [d1, d2, d3, d4] }
  | _ => none }
def streamBackRow : OpenClaim := { program := "ytibfkpgdpldjbaa", sum := "2ad1c333b74dc74ff4837c545e49c9fa6986b5a97849964044a6e553c05c2fc6", func := "pintle/pintlelaw6.StreamBack", spec := "streamBack", inPlace := ["sync/atomic.AddInt64", "sync/atomic.LoadInt64"], apart := false }
def StreamBackSaid : Prop := streamBackRow.holds Try.pinned (OpenSpec.ofChange streamBackSpec)

/-- ITS FALSE NEIGHBOUR: 'it returns false'. Refute it at one input. -/
def streamBackWrong : ChangeSpec := { name := "streamBack", fn := fun _ => fun
  | [d1, d2, d3, d4] => { results := [.lit (.bool false)], args := [d1, d2, d3, d4] }
  | _ => none }
def StreamBackWrongFalsely : Prop := streamBackRow.holds Try.pinned (OpenSpec.ofChange streamBackWrong)

/-- 'pintlelaw6.StreamPieces': WHATEVER THE INPUT: true; the input reads as it did. -/
def streamPiecesSpec : ChangeSpec := { name := "streamPieces", fn := fun _ => fun
  | [d1, d2, d3, d4, d5] => { results := [.lit (.bool true)], args := [d1, d2, d3, d4, d5] }
  | _ => none }
def streamPiecesRow : OpenClaim := { program := "ytibfkpgdpldjbaa", sum := "2ad1c333b74dc74ff4837c545e49c9fa6986b5a97849964044a6e553c05c2fc6", func := "pintle/pintlelaw6.StreamPieces", spec := "streamPieces", inPlace := ["sync/atomic.AddInt64", "sync/atomic.LoadInt64"], apart := false }
def StreamPiecesSaid : Prop := streamPiecesRow.holds Try.pinned (OpenSpec.ofChange streamPiecesSpec)

/-- ITS FALSE NEIGHBOUR: 'it returns false'. Refute it at one input. -/
def streamPiecesWrong : ChangeSpec := { name := "streamPieces", fn := fun _ => fun
  | [d1, d2, d3, d4, d5] => { results := [.lit (.bool false)], args := [d1, d2, d3, d4, d5] }
  | _ => none }
def StreamPiecesWrongFalsely : Prop := streamPiecesRow.holds Try.pinned (OpenSpec.ofChange streamPiecesWrong)

/-- 'pintlelaw6.StreamZeros': WHATEVER THE INPUT: true; the input reads as it did. -/
def streamZerosSpec : ChangeSpec := { name := "streamZeros", fn := fun _ => fun
  | [d1, d2, d3, d4] => { results := [.lit (.bool true)], args := [d1, d2, d3, d4] }
  | _ => none }
def streamZerosRow : OpenClaim := { program := "ytibfkpgdpldjbaa", sum := "2ad1c333b74dc74ff4837c545e49c9fa6986b5a97849964044a6e553c05c2fc6", func := "pintle/pintlelaw6.StreamZeros", spec := "streamZeros", inPlace := ["sync/atomic.AddInt64", "sync/atomic.LoadInt64"], apart := false }
def StreamZerosSaid : Prop := streamZerosRow.holds Try.pinned (OpenSpec.ofChange streamZerosSpec)

/-- ITS FALSE NEIGHBOUR: 'it returns false'. Refute it at one input. -/
def streamZerosWrong : ChangeSpec := { name := "streamZeros", fn := fun _ => fun
  | [d1, d2, d3, d4] => { results := [.lit (.bool false)], args := [d1, d2, d3, d4] }
  | _ => none }
def StreamZerosWrongFalsely : Prop := streamZerosRow.holds Try.pinned (OpenSpec.ofChange streamZerosWrong)

/-- 'pintlelaw6.StreamBlocks': WHATEVER THE INPUT: true; the input reads as it did. -/
def streamBlocksSpec : ChangeSpec := { name := "streamBlocks", fn := fun _ => fun
  | [d1, d2, d3] => { results := [.lit (.bool true)], args := [d1, d2, d3] }
  | _ => none }
def streamBlocksRow : OpenClaim := { program := "ytibfkpgdpldjbaa", sum := "2ad1c333b74dc74ff4837c545e49c9fa6986b5a97849964044a6e553c05c2fc6", func := "pintle/pintlelaw6.StreamBlocks", spec := "streamBlocks", inPlace := ["sync/atomic.AddInt64", "sync/atomic.LoadInt64"], unfollowed := true, recurses := true, apart := false }
def StreamBlocksSaid : Prop := streamBlocksRow.holds Try.pinned (OpenSpec.ofChange streamBlocksSpec)

/-- ITS FALSE NEIGHBOUR: 'it returns false'. Refute it at one input. -/
def streamBlocksWrong : ChangeSpec := { name := "streamBlocks", fn := fun _ => fun
  | [d1, d2, d3] => { results := [.lit (.bool false)], args := [d1, d2, d3] }
  | _ => none }
def StreamBlocksWrongFalsely : Prop := streamBlocksRow.holds Try.pinned (OpenSpec.ofChange streamBlocksWrong)

/-- 'pintlelaw6.StreamTurns': WHATEVER THE INPUT: true; the input reads as it did. -/
def streamTurnsSpec : ChangeSpec := { name := "streamTurns", fn := fun _ => fun
  | [d1, d2, d3, d4] => { results := [.lit (.bool true)], args := [d1, d2, d3, d4] }
  | _ => none }
def streamTurnsRow : OpenClaim := { program := "ytibfkpgdpldjbaa", sum := "2ad1c333b74dc74ff4837c545e49c9fa6986b5a97849964044a6e553c05c2fc6", func := "pintle/pintlelaw6.StreamTurns", spec := "streamTurns", inPlace := ["sync/atomic.AddInt64", "sync/atomic.LoadInt64"], unfollowed := true, recurses := true, apart := false }
def StreamTurnsSaid : Prop := streamTurnsRow.holds Try.pinned (OpenSpec.ofChange streamTurnsSpec)

/-- ITS FALSE NEIGHBOUR: 'it returns false'. Refute it at one input. -/
def streamTurnsWrong : ChangeSpec := { name := "streamTurns", fn := fun _ => fun
  | [d1, d2, d3, d4] => { results := [.lit (.bool false)], args := [d1, d2, d3, d4] }
  | _ => none }
def StreamTurnsWrongFalsely : Prop := streamTurnsRow.holds Try.pinned (OpenSpec.ofChange streamTurnsWrong)

/-- 'pintlelaw6.StreamBlind': WHATEVER THE INPUT: true; the input reads as it did. -/
def streamBlindSpec : ChangeSpec := { name := "streamBlind", fn := fun _ => fun
  | [d1, d2, d3, d4, d5, d6, d7, d8] => { results := [.lit (.bool true)], args := [d1, d2, d3, d4, d5, d6, d7, d8] }
  | _ => none }
def streamBlindRow : OpenClaim := { program := "ytibfkpgdpldjbaa", sum := "2ad1c333b74dc74ff4837c545e49c9fa6986b5a97849964044a6e553c05c2fc6", func := "pintle/pintlelaw6.StreamBlind", spec := "streamBlind", inPlace := ["sync/atomic.AddInt64", "sync/atomic.LoadInt64"], apart := false }
def StreamBlindSaid : Prop := streamBlindRow.holds Try.pinned (OpenSpec.ofChange streamBlindSpec)

/-- ITS FALSE NEIGHBOUR: 'it returns false'. Refute it at one input. -/
def streamBlindWrong : ChangeSpec := { name := "streamBlind", fn := fun _ => fun
  | [d1, d2, d3, d4, d5, d6, d7, d8] => { results := [.lit (.bool false)], args := [d1, d2, d3, d4, d5, d6, d7, d8] }
  | _ => none }
def StreamBlindWrongFalsely : Prop := streamBlindRow.holds Try.pinned (OpenSpec.ofChange streamBlindWrong)

/- THE SECOND FORM. 'bulk': how many values and letters a reading holds, each counted each time it is reached (what is shared counts as often as it is met; a slice's spare places count too). A statement '..UptoSaid' is the law's where the arguments, and the package variables that the reading takes, are together of bulk at most 1048576: NARROWER than '..Said'. Prove '..Said' where nothing that the law and all that it calls make is longer than what came in: it says more and counts as full. Else prove '..UptoSaid'. A law counts once. -/
mutual
def uptoBulk {H : Type} : DataW H → Nat
  | .lit (.string bytes) => bytes.length + 1
  | .lit _ => 1
  | .nil => 1
  | .ptr d => uptoBulk d + 1
  | .slice elems spare => uptoBulkAll elems + uptoBulkAll spare + 1
  | .agg parts => uptoBulkAll parts + 1
  | .iface _ d => uptoBulk d + 1
  | .map entries => uptoBulkEntries entries + 1
  | .held _ => 1
def uptoBulkAll {H : Type} : List (DataW H) → Nat
  | [] => 0
  | d :: r => uptoBulk d + uptoBulkAll r
def uptoBulkEntries {H : Type} : List (Lit × DataW H) → Nat
  | [] => 0
  | x :: r => uptoBulkEntry x + uptoBulkEntries r
def uptoBulkEntry {H : Type} : Lit × DataW H → Nat
  | (.string bytes, d) => bytes.length + uptoBulk d + 1
  | (_, d) => uptoBulk d + 1
 end
def uptoSmall : (H : Type) → List (DataW H) → Bool := fun _ ds => decide (uptoBulkAll ds ≤ 1048576)
def OpenSpec.upto (s : _root_.Go.ChangeSpec) : _root_.Go.OpenSpec := { _root_.Go.OpenSpec.ofChange s with cond := some uptoSmall }

/-- 'pintlelaw6.StreamBack', WHERE WHAT IT READS IS OF BULK AT MOST 1048576: true; the input reads as it did. -/
def streamBackUptoRow : OpenClaim := { program := "ytibfkpgdpldjbaa", sum := "2ad1c333b74dc74ff4837c545e49c9fa6986b5a97849964044a6e553c05c2fc6", func := "pintle/pintlelaw6.StreamBack", spec := "streamBack", inPlace := ["sync/atomic.AddInt64", "sync/atomic.LoadInt64"], apart := false, narrowed := true }
def StreamBackUptoSaid : Prop := streamBackUptoRow.holds Try.pinned (OpenSpec.upto streamBackSpec)

/-- 'pintlelaw6.StreamPieces', WHERE WHAT IT READS IS OF BULK AT MOST 1048576: true; the input reads as it did. -/
def streamPiecesUptoRow : OpenClaim := { program := "ytibfkpgdpldjbaa", sum := "2ad1c333b74dc74ff4837c545e49c9fa6986b5a97849964044a6e553c05c2fc6", func := "pintle/pintlelaw6.StreamPieces", spec := "streamPieces", inPlace := ["sync/atomic.AddInt64", "sync/atomic.LoadInt64"], apart := false, narrowed := true }
def StreamPiecesUptoSaid : Prop := streamPiecesUptoRow.holds Try.pinned (OpenSpec.upto streamPiecesSpec)

/-- 'pintlelaw6.StreamZeros', WHERE WHAT IT READS IS OF BULK AT MOST 1048576: true; the input reads as it did. -/
def streamZerosUptoRow : OpenClaim := { program := "ytibfkpgdpldjbaa", sum := "2ad1c333b74dc74ff4837c545e49c9fa6986b5a97849964044a6e553c05c2fc6", func := "pintle/pintlelaw6.StreamZeros", spec := "streamZeros", inPlace := ["sync/atomic.AddInt64", "sync/atomic.LoadInt64"], apart := false, narrowed := true }
def StreamZerosUptoSaid : Prop := streamZerosUptoRow.holds Try.pinned (OpenSpec.upto streamZerosSpec)

/-- 'pintlelaw6.StreamBlocks', WHERE WHAT IT READS IS OF BULK AT MOST 1048576: true; the input reads as it did. -/
def streamBlocksUptoRow : OpenClaim := { program := "ytibfkpgdpldjbaa", sum := "2ad1c333b74dc74ff4837c545e49c9fa6986b5a97849964044a6e553c05c2fc6", func := "pintle/pintlelaw6.StreamBlocks", spec := "streamBlocks", inPlace := ["sync/atomic.AddInt64", "sync/atomic.LoadInt64"], unfollowed := true, recurses := true, apart := false, narrowed := true }
def StreamBlocksUptoSaid : Prop := streamBlocksUptoRow.holds Try.pinned (OpenSpec.upto streamBlocksSpec)

/-- 'pintlelaw6.StreamTurns', WHERE WHAT IT READS IS OF BULK AT MOST 1048576: true; the input reads as it did. -/
def streamTurnsUptoRow : OpenClaim := { program := "ytibfkpgdpldjbaa", sum := "2ad1c333b74dc74ff4837c545e49c9fa6986b5a97849964044a6e553c05c2fc6", func := "pintle/pintlelaw6.StreamTurns", spec := "streamTurns", inPlace := ["sync/atomic.AddInt64", "sync/atomic.LoadInt64"], unfollowed := true, recurses := true, apart := false, narrowed := true }
def StreamTurnsUptoSaid : Prop := streamTurnsUptoRow.holds Try.pinned (OpenSpec.upto streamTurnsSpec)

/-- 'pintlelaw6.StreamBlind', WHERE WHAT IT READS IS OF BULK AT MOST 1048576: true; the input reads as it did. -/
def streamBlindUptoRow : OpenClaim := { program := "ytibfkpgdpldjbaa", sum := "2ad1c333b74dc74ff4837c545e49c9fa6986b5a97849964044a6e553c05c2fc6", func := "pintle/pintlelaw6.StreamBlind", spec := "streamBlind", inPlace := ["sync/atomic.AddInt64", "sync/atomic.LoadInt64"], apart := false, narrowed := true }
def StreamBlindUptoSaid : Prop := streamBlindUptoRow.holds Try.pinned (OpenSpec.upto streamBlindSpec)

end Rows
end Go.Proofs.Ytibfkpgdpldjbaa
