/-
  No cell of these rows narrows 'for every input' (looked for: loops, veiled, ifaces, maps, wideKeys, modest, calm, conditions, laid).
  DERIVED. THE GIVEN ROWS OF THIS SEAT. 8 by the template 'for every input the law returns true; each argument reads behind the call as it read before'; 0 by the template 'total and deterministic' (their statements: YtjkenobomlbdcaaTotals.lean).
  GIVEN WITH THE SEED: the statements are not yours to turn. If you find one false, say at which input.
  Laid BY PROGRAM, IN A SANDBOX (cutbox-rows.mjs): the forced cells as the released guide's own fill.sh prints them over the translation 36be90bd7e627a6f… (all of the seat's roots in one cut). By AI agents, Wed Nov 11 2026. No macro, syntax, notation, axiom, sorry.
-/
import Derived.Test.YtjkenobomlbdcaaChecked
import GoSem.Claim
import GoSem.ClaimJoined
import GoSem.ClaimMapViews
import Derived.JoinedTies
import Derived.KernelRfl
namespace Go.Proofs.Ytjkenobomlbdcaa
/- THE CELL 'sum', in the pinned program and in every row, IS THE sha256 OF THE DUMP (.gsa) THAT YtjkenobomlbdcaaProg.lean LOADS. Nothing in Lean hashes anything: it is a label: what it is worth is what the hold of that sum in a sandbox is worth. -/
noncomputable def Try.pinned : Pinned := { name := "ytjkenobomlbdcaa", sum := "36be90bd7e627a6f68fcd2d3ddbe07df75b6155ba7e637702286257b314cf877", checked := Try.checked }
namespace Rows
def none {H : Type} : Left H := { results := [], args := [] }

/-- 'pintlelaw5.CurveClamps': WHATEVER THE INPUT: true; the input reads as it did. -/
def curveClampsSpec : ChangeSpec := { name := "curveClamps", fn := fun _ => fun
  | [d1, d2] => { results := [.lit (.bool true)], args := [d1, d2] }
  | _ => none }
def curveClampsRow : OpenClaim := { program := "ytjkenobomlbdcaa", sum := "36be90bd7e627a6f68fcd2d3ddbe07df75b6155ba7e637702286257b314cf877", func := "pintle/pintlelaw5.CurveClamps", spec := "curveClamps", inPlace := ["sync/atomic.AddInt64", "math/bits.Add64", "sync/atomic.LoadInt64"], apart := false }
def CurveClampsSaid : Prop := curveClampsRow.holds Try.pinned (OpenSpec.ofChange curveClampsSpec)

/-- ITS FALSE NEIGHBOUR: 'it returns false'. Refute it at one input. -/
def curveClampsWrong : ChangeSpec := { name := "curveClamps", fn := fun _ => fun
  | [d1, d2] => { results := [.lit (.bool false)], args := [d1, d2] }
  | _ => none }
def CurveClampsWrongFalsely : Prop := curveClampsRow.holds Try.pinned (OpenSpec.ofChange curveClampsWrong)

/-- 'pintlelaw5.CurveAgrees': WHATEVER THE INPUT: true; the input reads as it did. -/
def curveAgreesSpec : ChangeSpec := { name := "curveAgrees", fn := fun _ => fun
  | [d1, d2] => { results := [.lit (.bool true)], args := [d1, d2] }
  | _ => none }
def curveAgreesRow : OpenClaim := { program := "ytjkenobomlbdcaa", sum := "36be90bd7e627a6f68fcd2d3ddbe07df75b6155ba7e637702286257b314cf877", func := "pintle/pintlelaw5.CurveAgrees", spec := "curveAgrees", inPlace := ["sync/atomic.AddInt64", "math/bits.Add64", "sync/atomic.LoadInt64"], apart := false }
def CurveAgreesSaid : Prop := curveAgreesRow.holds Try.pinned (OpenSpec.ofChange curveAgreesSpec)

/-- ITS FALSE NEIGHBOUR: 'it returns false'. Refute it at one input. -/
def curveAgreesWrong : ChangeSpec := { name := "curveAgrees", fn := fun _ => fun
  | [d1, d2] => { results := [.lit (.bool false)], args := [d1, d2] }
  | _ => none }
def CurveAgreesWrongFalsely : Prop := curveAgreesRow.holds Try.pinned (OpenSpec.ofChange curveAgreesWrong)

/-- 'pintlelaw5.CurveCommutes': WHATEVER THE INPUT: true; the input reads as it did. -/
def curveCommutesSpec : ChangeSpec := { name := "curveCommutes", fn := fun _ => fun
  | [d1, d2, d3] => { results := [.lit (.bool true)], args := [d1, d2, d3] }
  | _ => none }
def curveCommutesRow : OpenClaim := { program := "ytjkenobomlbdcaa", sum := "36be90bd7e627a6f68fcd2d3ddbe07df75b6155ba7e637702286257b314cf877", func := "pintle/pintlelaw5.CurveCommutes", spec := "curveCommutes", inPlace := ["sync/atomic.AddInt64", "math/bits.Add64", "sync/atomic.LoadInt64"], apart := false }
def CurveCommutesSaid : Prop := curveCommutesRow.holds Try.pinned (OpenSpec.ofChange curveCommutesSpec)

/-- ITS FALSE NEIGHBOUR: 'it returns false'. Refute it at one input. -/
def curveCommutesWrong : ChangeSpec := { name := "curveCommutes", fn := fun _ => fun
  | [d1, d2, d3] => { results := [.lit (.bool false)], args := [d1, d2, d3] }
  | _ => none }
def CurveCommutesWrongFalsely : Prop := curveCommutesRow.holds Try.pinned (OpenSpec.ofChange curveCommutesWrong)

/-- 'pintlelaw5.CurveForms': WHATEVER THE INPUT: true; the input reads as it did. -/
def curveFormsSpec : ChangeSpec := { name := "curveForms", fn := fun _ => fun
  | [d1, d2] => { results := [.lit (.bool true)], args := [d1, d2] }
  | _ => none }
def curveFormsRow : OpenClaim := { program := "ytjkenobomlbdcaa", sum := "36be90bd7e627a6f68fcd2d3ddbe07df75b6155ba7e637702286257b314cf877", func := "pintle/pintlelaw5.CurveForms", spec := "curveForms", inPlace := ["sync/atomic.AddInt64", "math/bits.Add64", "sync/atomic.LoadInt64"], apart := false }
def CurveFormsSaid : Prop := curveFormsRow.holds Try.pinned (OpenSpec.ofChange curveFormsSpec)

/-- ITS FALSE NEIGHBOUR: 'it returns false'. Refute it at one input. -/
def curveFormsWrong : ChangeSpec := { name := "curveForms", fn := fun _ => fun
  | [d1, d2] => { results := [.lit (.bool false)], args := [d1, d2] }
  | _ => none }
def CurveFormsWrongFalsely : Prop := curveFormsRow.holds Try.pinned (OpenSpec.ofChange curveFormsWrong)

/-- 'pintlelaw5.CurveLow': WHATEVER THE INPUT: true; the input reads as it did. -/
def curveLowSpec : ChangeSpec := { name := "curveLow", fn := fun _ => fun
  | [d] => { results := [.lit (.bool true)], args := [d] }
  | _ => none }
def curveLowRow : OpenClaim := { program := "ytjkenobomlbdcaa", sum := "36be90bd7e627a6f68fcd2d3ddbe07df75b6155ba7e637702286257b314cf877", func := "pintle/pintlelaw5.CurveLow", spec := "curveLow", inPlace := ["sync/atomic.AddInt64", "math/bits.Add64", "sync/atomic.LoadInt64"], apart := false }
def CurveLowSaid : Prop := curveLowRow.holds Try.pinned (OpenSpec.ofChange curveLowSpec)

/-- ITS FALSE NEIGHBOUR: 'it returns false'. Refute it at one input. -/
def curveLowWrong : ChangeSpec := { name := "curveLow", fn := fun _ => fun
  | [d] => { results := [.lit (.bool false)], args := [d] }
  | _ => none }
def CurveLowWrongFalsely : Prop := curveLowRow.holds Try.pinned (OpenSpec.ofChange curveLowWrong)

/-- 'pintlelaw5.CurvePublic': WHATEVER THE INPUT: true; the input reads as it did. -/
def curvePublicSpec : ChangeSpec := { name := "curvePublic", fn := fun _ => fun
  | [d] => { results := [.lit (.bool true)], args := [d] }
  | _ => none }
def curvePublicRow : OpenClaim := { program := "ytjkenobomlbdcaa", sum := "36be90bd7e627a6f68fcd2d3ddbe07df75b6155ba7e637702286257b314cf877", func := "pintle/pintlelaw5.CurvePublic", spec := "curvePublic", inPlace := ["sync/atomic.AddInt64", "math/bits.Add64", "sync/atomic.LoadInt64"], unfollowed := true, recurses := true, apart := false }
def CurvePublicSaid : Prop := curvePublicRow.holds Try.pinned (OpenSpec.ofChange curvePublicSpec)

/-- ITS FALSE NEIGHBOUR: 'it returns false'. Refute it at one input. -/
def curvePublicWrong : ChangeSpec := { name := "curvePublic", fn := fun _ => fun
  | [d] => { results := [.lit (.bool false)], args := [d] }
  | _ => none }
def CurvePublicWrongFalsely : Prop := curvePublicRow.holds Try.pinned (OpenSpec.ofChange curvePublicWrong)

/-- 'pintlelaw5.CurveShares': WHATEVER THE INPUT: true; the input reads as it did. -/
def curveSharesSpec : ChangeSpec := { name := "curveShares", fn := fun _ => fun
  | [d1, d2] => { results := [.lit (.bool true)], args := [d1, d2] }
  | _ => none }
def curveSharesRow : OpenClaim := { program := "ytjkenobomlbdcaa", sum := "36be90bd7e627a6f68fcd2d3ddbe07df75b6155ba7e637702286257b314cf877", func := "pintle/pintlelaw5.CurveShares", spec := "curveShares", inPlace := ["sync/atomic.AddInt64", "math/bits.Add64", "sync/atomic.LoadInt64"], unfollowed := true, recurses := true, apart := false }
def CurveSharesSaid : Prop := curveSharesRow.holds Try.pinned (OpenSpec.ofChange curveSharesSpec)

/-- ITS FALSE NEIGHBOUR: 'it returns false'. Refute it at one input. -/
def curveSharesWrong : ChangeSpec := { name := "curveShares", fn := fun _ => fun
  | [d1, d2] => { results := [.lit (.bool false)], args := [d1, d2] }
  | _ => none }
def CurveSharesWrongFalsely : Prop := curveSharesRow.holds Try.pinned (OpenSpec.ofChange curveSharesWrong)

/-- 'pintlelaw5.CurveBlind': WHATEVER THE INPUT: true; the input reads as it did. -/
def curveBlindSpec : ChangeSpec := { name := "curveBlind", fn := fun _ => fun
  | [d1, d2, d3, d4] => { results := [.lit (.bool true)], args := [d1, d2, d3, d4] }
  | _ => none }
def curveBlindRow : OpenClaim := { program := "ytjkenobomlbdcaa", sum := "36be90bd7e627a6f68fcd2d3ddbe07df75b6155ba7e637702286257b314cf877", func := "pintle/pintlelaw5.CurveBlind", spec := "curveBlind", inPlace := ["sync/atomic.AddInt64", "math/bits.Add64", "sync/atomic.LoadInt64"], unfollowed := true, recurses := true, apart := false }
def CurveBlindSaid : Prop := curveBlindRow.holds Try.pinned (OpenSpec.ofChange curveBlindSpec)

/-- ITS FALSE NEIGHBOUR: 'it returns false'. Refute it at one input. -/
def curveBlindWrong : ChangeSpec := { name := "curveBlind", fn := fun _ => fun
  | [d1, d2, d3, d4] => { results := [.lit (.bool false)], args := [d1, d2, d3, d4] }
  | _ => none }
def CurveBlindWrongFalsely : Prop := curveBlindRow.holds Try.pinned (OpenSpec.ofChange curveBlindWrong)

/- THE SECOND FORM. 'bulk': how many values and letters a reading holds, each counted each time it is reached (what is shared counts as often as it is met; a slice's spare places count too). A statement '..UptoSaid' is the law's where the arguments, and the package variables that the reading takes, are together of bulk at most 1048576: NARROWER than '..Said'. Prove '..Said' where nothing that the law and all that it calls make is longer than what came in: it says more and counts as full. Else prove '..UptoSaid'. A law counts once. -/
mutual
def uptoBulk {H : Type} : DataW H → Nat
  | .lit (.string bytes) => bytes.length + 1
  | .lit _ => 1
  | .nil => 1
  | .ptr d => uptoBulk d + 1
  | .slice elems spare => uptoBulkAll elems + uptoBulkAll spare + 1
  | .agg parts => uptoBulkAll parts + 1
  | .iface _ d => uptoBulk d + 1
  | .map entries => uptoBulkEntries entries + 1
  | .held _ => 1
def uptoBulkAll {H : Type} : List (DataW H) → Nat
  | [] => 0
  | d :: r => uptoBulk d + uptoBulkAll r
def uptoBulkEntries {H : Type} : List (Lit × DataW H) → Nat
  | [] => 0
  | x :: r => uptoBulkEntry x + uptoBulkEntries r
def uptoBulkEntry {H : Type} : Lit × DataW H → Nat
  | (.string bytes, d) => bytes.length + uptoBulk d + 1
  | (_, d) => uptoBulk d + 1
 end
def uptoSmall : (H : Type) → List (DataW H) → Bool := fun _ ds => decide (uptoBulkAll ds ≤ 1048576)
def OpenSpec.upto (s : _root_.Go.ChangeSpec) : _root_.Go.OpenSpec := { _root_.Go.OpenSpec.ofChange s with cond := some uptoSmall }

/-- 'pintlelaw5.CurveClamps', WHERE WHAT IT READS IS OF BULK AT MOST 1048576: true; the input reads as it did. -/
def curveClampsUptoRow : OpenClaim := { program := "ytjkenobomlbdcaa", sum := "36be90bd7e627a6f68fcd2d3ddbe07df75b6155ba7e637702286257b314cf877", func := "pintle/pintlelaw5.CurveClamps", spec := "curveClamps", inPlace := ["sync/atomic.AddInt64", "math/bits.Add64", "sync/atomic.LoadInt64"], apart := false, narrowed := true }
def CurveClampsUptoSaid : Prop := curveClampsUptoRow.holds Try.pinned (OpenSpec.upto curveClampsSpec)

/-- 'pintlelaw5.CurveAgrees', WHERE WHAT IT READS IS OF BULK AT MOST 1048576: true; the input reads as it did. -/
def curveAgreesUptoRow : OpenClaim := { program := "ytjkenobomlbdcaa", sum := "36be90bd7e627a6f68fcd2d3ddbe07df75b6155ba7e637702286257b314cf877", func := "pintle/pintlelaw5.CurveAgrees", spec := "curveAgrees", inPlace := ["sync/atomic.AddInt64", "math/bits.Add64", "sync/atomic.LoadInt64"], apart := false, narrowed := true }
def CurveAgreesUptoSaid : Prop := curveAgreesUptoRow.holds Try.pinned (OpenSpec.upto curveAgreesSpec)

/-- 'pintlelaw5.CurveCommutes', WHERE WHAT IT READS IS OF BULK AT MOST 1048576: true; the input reads as it did. -/
def curveCommutesUptoRow : OpenClaim := { program := "ytjkenobomlbdcaa", sum := "36be90bd7e627a6f68fcd2d3ddbe07df75b6155ba7e637702286257b314cf877", func := "pintle/pintlelaw5.CurveCommutes", spec := "curveCommutes", inPlace := ["sync/atomic.AddInt64", "math/bits.Add64", "sync/atomic.LoadInt64"], apart := false, narrowed := true }
def CurveCommutesUptoSaid : Prop := curveCommutesUptoRow.holds Try.pinned (OpenSpec.upto curveCommutesSpec)

/-- 'pintlelaw5.CurveForms', WHERE WHAT IT READS IS OF BULK AT MOST 1048576: true; the input reads as it did. -/
def curveFormsUptoRow : OpenClaim := { program := "ytjkenobomlbdcaa", sum := "36be90bd7e627a6f68fcd2d3ddbe07df75b6155ba7e637702286257b314cf877", func := "pintle/pintlelaw5.CurveForms", spec := "curveForms", inPlace := ["sync/atomic.AddInt64", "math/bits.Add64", "sync/atomic.LoadInt64"], apart := false, narrowed := true }
def CurveFormsUptoSaid : Prop := curveFormsUptoRow.holds Try.pinned (OpenSpec.upto curveFormsSpec)

/-- 'pintlelaw5.CurveLow', WHERE WHAT IT READS IS OF BULK AT MOST 1048576: true; the input reads as it did. -/
def curveLowUptoRow : OpenClaim := { program := "ytjkenobomlbdcaa", sum := "36be90bd7e627a6f68fcd2d3ddbe07df75b6155ba7e637702286257b314cf877", func := "pintle/pintlelaw5.CurveLow", spec := "curveLow", inPlace := ["sync/atomic.AddInt64", "math/bits.Add64", "sync/atomic.LoadInt64"], apart := false, narrowed := true }
def CurveLowUptoSaid : Prop := curveLowUptoRow.holds Try.pinned (OpenSpec.upto curveLowSpec)

/-- 'pintlelaw5.CurvePublic', WHERE WHAT IT READS IS OF BULK AT MOST 1048576: true; the input reads as it did. -/
def curvePublicUptoRow : OpenClaim := { program := "ytjkenobomlbdcaa", sum := "36be90bd7e627a6f68fcd2d3ddbe07df75b6155ba7e637702286257b314cf877", func := "pintle/pintlelaw5.CurvePublic", spec := "curvePublic", inPlace := ["sync/atomic.AddInt64", "math/bits.Add64", "sync/atomic.LoadInt64"], unfollowed := true, recurses := true, apart := false, narrowed := true }
def CurvePublicUptoSaid : Prop := curvePublicUptoRow.holds Try.pinned (OpenSpec.upto curvePublicSpec)

/-- 'pintlelaw5.CurveShares', WHERE WHAT IT READS IS OF BULK AT MOST 1048576: true; the input reads as it did. -/
def curveSharesUptoRow : OpenClaim := { program := "ytjkenobomlbdcaa", sum := "36be90bd7e627a6f68fcd2d3ddbe07df75b6155ba7e637702286257b314cf877", func := "pintle/pintlelaw5.CurveShares", spec := "curveShares", inPlace := ["sync/atomic.AddInt64", "math/bits.Add64", "sync/atomic.LoadInt64"], unfollowed := true, recurses := true, apart := false, narrowed := true }
def CurveSharesUptoSaid : Prop := curveSharesUptoRow.holds Try.pinned (OpenSpec.upto curveSharesSpec)

/-- 'pintlelaw5.CurveBlind', WHERE WHAT IT READS IS OF BULK AT MOST 1048576: true; the input reads as it did. -/
def curveBlindUptoRow : OpenClaim := { program := "ytjkenobomlbdcaa", sum := "36be90bd7e627a6f68fcd2d3ddbe07df75b6155ba7e637702286257b314cf877", func := "pintle/pintlelaw5.CurveBlind", spec := "curveBlind", inPlace := ["sync/atomic.AddInt64", "math/bits.Add64", "sync/atomic.LoadInt64"], unfollowed := true, recurses := true, apart := false, narrowed := true }
def CurveBlindUptoSaid : Prop := curveBlindUptoRow.holds Try.pinned (OpenSpec.upto curveBlindSpec)

end Rows
end Go.Proofs.Ytjkenobomlbdcaa
