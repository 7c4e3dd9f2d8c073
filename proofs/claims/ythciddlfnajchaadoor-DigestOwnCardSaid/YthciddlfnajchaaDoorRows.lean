/-
  NARROWER THAN 'FOR EVERY INPUT', by the rows' own cells (each row's printed sentence says how): DigestTwo: laid · DigestNothing: laid · DigestCuts: laid · DigestOwn: laid · DigestNews: laid · DigestPlays: laid · DigestOfs: laid.
  DERIVED. THE GIVEN ROWS OF THIS SEAT. 7 by the template 'for every input the law returns true; each argument reads behind the call as it read before'; 0 by the template 'total and deterministic' (their statements: YthciddlfnajchaaDoorTotals.lean).
  GIVEN WITH THE SEED: the statements are not yours to turn. If you find one false, say at which input.
  Laid BY PROGRAM, IN A SANDBOX (cutbox-rows.mjs): the forced cells as the released guide's own fill.sh prints them over the translation 9b3c6da3a11f7a14… (all of the seat's roots in one cut). By AI agents, Wed Nov 11 2026. No macro, syntax, notation, axiom, sorry.
-/
import Derived.Test.YthciddlfnajchaaDoorChecked
import GoSem.Claim
import GoSem.ClaimJoined
import GoSem.ClaimMapViews
import Derived.JoinedTies
import Derived.KernelRfl
namespace Go.Proofs.YthciddlfnajchaaDoor
/- THE CELL 'sum', in the pinned program and in every row, IS THE sha256 OF THE DUMP (.gsa) THAT YthciddlfnajchaaDoorProg.lean LOADS. Nothing in Lean hashes anything: it is a label: what it is worth is what the hold of that sum in a sandbox is worth. -/
noncomputable def Tryd.pinned : Pinned := { name := "ythciddlfnajchaadoor", sum := "9b3c6da3a11f7a14f02c0c390ff450a9d41a887930d87d08cf5e73f2d76ed737", checked := Tryd.checked }
namespace Rows
def none {H : Type} : Left H := { results := [], args := [] }

/- WHAT THE LISTED PACKAGE-LEVEL VARIABLES READ AS WHEN THE CALL BEGINS. Each datum BY PROGRAM (the guide's laid-datum.mjs) off the statement by which the dump's own 'gosem.cut.vars' lays the variable. In a bare row this is a premise. The card (YthciddlfnajchaaDoorCards.lean) ties it to the program's text. -/
def laid_pintle_api_ErrArg {H : Type} : DataW H := .iface "*errors.errorString" (.ptr (.agg [.lit (.string [112, 105, 110, 116, 108, 101, 58, 32, 97, 114, 103, 117, 109, 101, 110, 116])]))

/-- 'pintlelaw8.DigestTwo': WHATEVER THE INPUT: true; the input reads as it did. -/
def digestTwoSpec : ChangeSpec := { name := "digestTwo", fn := fun _ => fun
  | [d1, d2, d3, d4] => { results := [.lit (.bool true)], args := [d1, d2, d3, d4] }
  | _ => none }
def digestTwoRow : OpenClaim := { program := "ythciddlfnajchaadoor", sum := "9b3c6da3a11f7a14f02c0c390ff450a9d41a887930d87d08cf5e73f2d76ed737", func := "pintle/pintlelaw8.DigestTwo", spec := "digestTwo", inPlace := ["sync/atomic.AddInt64", "sync/atomic.LoadInt64"], named := ["pintle/api.ErrArg"], apart := false, laid := [("pintle/api.ErrArg", laid_pintle_api_ErrArg)] }
def DigestTwoSaid : Prop := digestTwoRow.holds Tryd.pinned (OpenSpec.ofChange digestTwoSpec)

/-- ITS FALSE NEIGHBOUR: 'it returns false'. Refute it at one input. -/
def digestTwoWrong : ChangeSpec := { name := "digestTwo", fn := fun _ => fun
  | [d1, d2, d3, d4] => { results := [.lit (.bool false)], args := [d1, d2, d3, d4] }
  | _ => none }
def DigestTwoWrongFalsely : Prop := digestTwoRow.holds Tryd.pinned (OpenSpec.ofChange digestTwoWrong)

/-- 'pintlelaw8.DigestNothing': WHATEVER THE INPUT: true; the input reads as it did. -/
def digestNothingSpec : ChangeSpec := { name := "digestNothing", fn := fun _ => fun
  | [d] => { results := [.lit (.bool true)], args := [d] }
  | _ => none }
def digestNothingRow : OpenClaim := { program := "ythciddlfnajchaadoor", sum := "9b3c6da3a11f7a14f02c0c390ff450a9d41a887930d87d08cf5e73f2d76ed737", func := "pintle/pintlelaw8.DigestNothing", spec := "digestNothing", inPlace := ["sync/atomic.AddInt64", "sync/atomic.LoadInt64"], named := ["pintle/api.ErrArg"], apart := false, laid := [("pintle/api.ErrArg", laid_pintle_api_ErrArg)] }
def DigestNothingSaid : Prop := digestNothingRow.holds Tryd.pinned (OpenSpec.ofChange digestNothingSpec)

/-- ITS FALSE NEIGHBOUR: 'it returns false'. Refute it at one input. -/
def digestNothingWrong : ChangeSpec := { name := "digestNothing", fn := fun _ => fun
  | [d] => { results := [.lit (.bool false)], args := [d] }
  | _ => none }
def DigestNothingWrongFalsely : Prop := digestNothingRow.holds Tryd.pinned (OpenSpec.ofChange digestNothingWrong)

/-- 'pintlelaw8.DigestCuts': WHATEVER THE INPUT: true; the input reads as it did. -/
def digestCutsSpec : ChangeSpec := { name := "digestCuts", fn := fun _ => fun
  | [d1, d2] => { results := [.lit (.bool true)], args := [d1, d2] }
  | _ => none }
def digestCutsRow : OpenClaim := { program := "ythciddlfnajchaadoor", sum := "9b3c6da3a11f7a14f02c0c390ff450a9d41a887930d87d08cf5e73f2d76ed737", func := "pintle/pintlelaw8.DigestCuts", spec := "digestCuts", inPlace := ["sync/atomic.AddInt64", "sync/atomic.LoadInt64"], named := ["pintle/api.ErrArg"], apart := false, laid := [("pintle/api.ErrArg", laid_pintle_api_ErrArg)] }
def DigestCutsSaid : Prop := digestCutsRow.holds Tryd.pinned (OpenSpec.ofChange digestCutsSpec)

/-- ITS FALSE NEIGHBOUR: 'it returns false'. Refute it at one input. -/
def digestCutsWrong : ChangeSpec := { name := "digestCuts", fn := fun _ => fun
  | [d1, d2] => { results := [.lit (.bool false)], args := [d1, d2] }
  | _ => none }
def DigestCutsWrongFalsely : Prop := digestCutsRow.holds Tryd.pinned (OpenSpec.ofChange digestCutsWrong)

/-- 'pintlelaw8.DigestOwn': WHATEVER THE INPUT: true; the input reads as it did. -/
def digestOwnSpec : ChangeSpec := { name := "digestOwn", fn := fun _ => fun
  | [d1, d2, d3] => { results := [.lit (.bool true)], args := [d1, d2, d3] }
  | _ => none }
def digestOwnRow : OpenClaim := { program := "ythciddlfnajchaadoor", sum := "9b3c6da3a11f7a14f02c0c390ff450a9d41a887930d87d08cf5e73f2d76ed737", func := "pintle/pintlelaw8.DigestOwn", spec := "digestOwn", inPlace := ["sync/atomic.AddInt64", "sync/atomic.LoadInt64"], named := ["pintle/api.ErrArg"], apart := false, laid := [("pintle/api.ErrArg", laid_pintle_api_ErrArg)] }
def DigestOwnSaid : Prop := digestOwnRow.holds Tryd.pinned (OpenSpec.ofChange digestOwnSpec)

/-- ITS FALSE NEIGHBOUR: 'it returns false'. Refute it at one input. -/
def digestOwnWrong : ChangeSpec := { name := "digestOwn", fn := fun _ => fun
  | [d1, d2, d3] => { results := [.lit (.bool false)], args := [d1, d2, d3] }
  | _ => none }
def DigestOwnWrongFalsely : Prop := digestOwnRow.holds Tryd.pinned (OpenSpec.ofChange digestOwnWrong)

/-- 'pintlelaw8.DigestNews': WHATEVER THE INPUT: true; the input reads as it did. -/
def digestNewsSpec : ChangeSpec := { name := "digestNews", fn := fun _ => fun
  | [d1, d2] => { results := [.lit (.bool true)], args := [d1, d2] }
  | _ => none }
def digestNewsRow : OpenClaim := { program := "ythciddlfnajchaadoor", sum := "9b3c6da3a11f7a14f02c0c390ff450a9d41a887930d87d08cf5e73f2d76ed737", func := "pintle/pintlelaw8.DigestNews", spec := "digestNews", inPlace := ["sync/atomic.AddInt64", "sync/atomic.LoadInt64"], unfollowed := true, recurses := true, named := ["pintle/api.ErrArg"], apart := false, laid := [("pintle/api.ErrArg", laid_pintle_api_ErrArg)] }
def DigestNewsSaid : Prop := digestNewsRow.holds Tryd.pinned (OpenSpec.ofChange digestNewsSpec)

/-- ITS FALSE NEIGHBOUR: 'it returns false'. Refute it at one input. -/
def digestNewsWrong : ChangeSpec := { name := "digestNews", fn := fun _ => fun
  | [d1, d2] => { results := [.lit (.bool false)], args := [d1, d2] }
  | _ => none }
def DigestNewsWrongFalsely : Prop := digestNewsRow.holds Tryd.pinned (OpenSpec.ofChange digestNewsWrong)

/-- 'pintlelaw8.DigestPlays': WHATEVER THE INPUT: true; the input reads as it did. -/
def digestPlaysSpec : ChangeSpec := { name := "digestPlays", fn := fun _ => fun
  | [d1, d2, d3] => { results := [.lit (.bool true)], args := [d1, d2, d3] }
  | _ => none }
def digestPlaysRow : OpenClaim := { program := "ythciddlfnajchaadoor", sum := "9b3c6da3a11f7a14f02c0c390ff450a9d41a887930d87d08cf5e73f2d76ed737", func := "pintle/pintlelaw8.DigestPlays", spec := "digestPlays", inPlace := ["sync/atomic.AddInt64", "sync/atomic.LoadInt64"], unfollowed := true, recurses := true, named := ["pintle/api.ErrArg"], apart := false, laid := [("pintle/api.ErrArg", laid_pintle_api_ErrArg)] }
def DigestPlaysSaid : Prop := digestPlaysRow.holds Tryd.pinned (OpenSpec.ofChange digestPlaysSpec)

/-- ITS FALSE NEIGHBOUR: 'it returns false'. Refute it at one input. -/
def digestPlaysWrong : ChangeSpec := { name := "digestPlays", fn := fun _ => fun
  | [d1, d2, d3] => { results := [.lit (.bool false)], args := [d1, d2, d3] }
  | _ => none }
def DigestPlaysWrongFalsely : Prop := digestPlaysRow.holds Tryd.pinned (OpenSpec.ofChange digestPlaysWrong)

/-- 'pintlelaw8.DigestOfs': WHATEVER THE INPUT: true; the input reads as it did. -/
def digestOfsSpec : ChangeSpec := { name := "digestOfs", fn := fun _ => fun
  | [d] => { results := [.lit (.bool true)], args := [d] }
  | _ => none }
def digestOfsRow : OpenClaim := { program := "ythciddlfnajchaadoor", sum := "9b3c6da3a11f7a14f02c0c390ff450a9d41a887930d87d08cf5e73f2d76ed737", func := "pintle/pintlelaw8.DigestOfs", spec := "digestOfs", inPlace := ["sync/atomic.AddInt64", "sync/atomic.LoadInt64"], unfollowed := true, recurses := true, named := ["pintle/api.ErrArg"], apart := false, laid := [("pintle/api.ErrArg", laid_pintle_api_ErrArg)] }
def DigestOfsSaid : Prop := digestOfsRow.holds Tryd.pinned (OpenSpec.ofChange digestOfsSpec)

/-- ITS FALSE NEIGHBOUR: 'it returns false'. Refute it at one input. -/
def digestOfsWrong : ChangeSpec := { name := "digestOfs", fn := fun _ => fun
  | [d] => { results := [.lit (.bool false)], args := [d] }
  | _ => none }
def DigestOfsWrongFalsely : Prop := digestOfsRow.holds Tryd.pinned (OpenSpec.ofChange digestOfsWrong)

/- THE SECOND FORM. 'bulk': how many values and letters a reading holds, each counted each time it is reached (what is shared counts as often as it is met; a slice's spare places count too). A statement '..UptoSaid' is the law's where the arguments, and the package variables that the reading takes, are together of bulk at most 1048576: NARROWER than '..Said'. Prove '..Said' where nothing that the law and all that it calls make is longer than what came in: it says more and counts as full. Else prove '..UptoSaid'. A law counts once. -/
mutual
def uptoBulk {H : Type} : DataW H → Nat
  | .lit (.string bytes) => bytes.length + 1
  | .lit _ => 1
  | .nil => 1
  | .ptr d => uptoBulk d + 1
  | .slice elems spare => uptoBulkAll elems + uptoBulkAll spare + 1
  | .agg parts => uptoBulkAll parts + 1
  | .iface _ d => uptoBulk d + 1
  | .map entries => uptoBulkEntries entries + 1
  | .held _ => 1
def uptoBulkAll {H : Type} : List (DataW H) → Nat
  | [] => 0
  | d :: r => uptoBulk d + uptoBulkAll r
def uptoBulkEntries {H : Type} : List (Lit × DataW H) → Nat
  | [] => 0
  | x :: r => uptoBulkEntry x + uptoBulkEntries r
def uptoBulkEntry {H : Type} : Lit × DataW H → Nat
  | (.string bytes, d) => bytes.length + uptoBulk d + 1
  | (_, d) => uptoBulk d + 1
 end
def uptoSmall : (H : Type) → List (DataW H) → Bool := fun _ ds => decide (uptoBulkAll ds ≤ 1048576)
def OpenSpec.upto (s : _root_.Go.ChangeSpec) : _root_.Go.OpenSpec := { _root_.Go.OpenSpec.ofChange s with cond := some uptoSmall }

/-- 'pintlelaw8.DigestTwo', WHERE WHAT IT READS IS OF BULK AT MOST 1048576: true; the input reads as it did. -/
def digestTwoUptoRow : OpenClaim := { program := "ythciddlfnajchaadoor", sum := "9b3c6da3a11f7a14f02c0c390ff450a9d41a887930d87d08cf5e73f2d76ed737", func := "pintle/pintlelaw8.DigestTwo", spec := "digestTwo", inPlace := ["sync/atomic.AddInt64", "sync/atomic.LoadInt64"], named := ["pintle/api.ErrArg"], apart := false, laid := [("pintle/api.ErrArg", laid_pintle_api_ErrArg)], narrowed := true }
def DigestTwoUptoSaid : Prop := digestTwoUptoRow.holds Tryd.pinned (OpenSpec.upto digestTwoSpec)

/-- 'pintlelaw8.DigestNothing', WHERE WHAT IT READS IS OF BULK AT MOST 1048576: true; the input reads as it did. -/
def digestNothingUptoRow : OpenClaim := { program := "ythciddlfnajchaadoor", sum := "9b3c6da3a11f7a14f02c0c390ff450a9d41a887930d87d08cf5e73f2d76ed737", func := "pintle/pintlelaw8.DigestNothing", spec := "digestNothing", inPlace := ["sync/atomic.AddInt64", "sync/atomic.LoadInt64"], named := ["pintle/api.ErrArg"], apart := false, laid := [("pintle/api.ErrArg", laid_pintle_api_ErrArg)], narrowed := true }
def DigestNothingUptoSaid : Prop := digestNothingUptoRow.holds Tryd.pinned (OpenSpec.upto digestNothingSpec)

/-- 'pintlelaw8.DigestCuts', WHERE WHAT IT READS IS OF BULK AT MOST 1048576: true; the input reads as it did. -/
def digestCutsUptoRow : OpenClaim := { program := "ythciddlfnajchaadoor", sum := "9b3c6da3a11f7a14f02c0c390ff450a9d41a887930d87d08cf5e73f2d76ed737", func := "pintle/pintlelaw8.DigestCuts", spec := "digestCuts", inPlace := ["sync/atomic.AddInt64", "sync/atomic.LoadInt64"], named := ["pintle/api.ErrArg"], apart := false, laid := [("pintle/api.ErrArg", laid_pintle_api_ErrArg)], narrowed := true }
def DigestCutsUptoSaid : Prop := digestCutsUptoRow.holds Tryd.pinned (OpenSpec.upto digestCutsSpec)

/-- 'pintlelaw8.DigestOwn', WHERE WHAT IT READS IS OF BULK AT MOST 1048576: true; the input reads as it did. -/
def digestOwnUptoRow : OpenClaim := { program := "ythciddlfnajchaadoor", sum := "9b3c6da3a11f7a14f02c0c390ff450a9d41a887930d87d08cf5e73f2d76ed737", func := "pintle/pintlelaw8.DigestOwn", spec := "digestOwn", inPlace := ["sync/atomic.AddInt64", "sync/atomic.LoadInt64"], named := ["pintle/api.ErrArg"], apart := false, laid := [("pintle/api.ErrArg", laid_pintle_api_ErrArg)], narrowed := true }
def DigestOwnUptoSaid : Prop := digestOwnUptoRow.holds Tryd.pinned (OpenSpec.upto digestOwnSpec)

/-- 'pintlelaw8.DigestNews', WHERE WHAT IT READS IS OF BULK AT MOST 1048576: true; the input reads as it did. -/
def digestNewsUptoRow : OpenClaim := { program := "ythciddlfnajchaadoor", sum := "9b3c6da3a11f7a14f02c0c390ff450a9d41a887930d87d08cf5e73f2d76ed737", func := "pintle/pintlelaw8.DigestNews", spec := "digestNews", inPlace := ["sync/atomic.AddInt64", "sync/atomic.LoadInt64"], unfollowed := true, recurses := true, named := ["pintle/api.ErrArg"], apart := false, laid := [("pintle/api.ErrArg", laid_pintle_api_ErrArg)], narrowed := true }
def DigestNewsUptoSaid : Prop := digestNewsUptoRow.holds Tryd.pinned (OpenSpec.upto digestNewsSpec)

/-- 'pintlelaw8.DigestPlays', WHERE WHAT IT READS IS OF BULK AT MOST 1048576: true; the input reads as it did. -/
def digestPlaysUptoRow : OpenClaim := { program := "ythciddlfnajchaadoor", sum := "9b3c6da3a11f7a14f02c0c390ff450a9d41a887930d87d08cf5e73f2d76ed737", func := "pintle/pintlelaw8.DigestPlays", spec := "digestPlays", inPlace := ["sync/atomic.AddInt64", "sync/atomic.LoadInt64"], unfollowed := true, recurses := true, named := ["pintle/api.ErrArg"], apart := false, laid := [("pintle/api.ErrArg", laid_pintle_api_ErrArg)], narrowed := true }
def DigestPlaysUptoSaid : Prop := digestPlaysUptoRow.holds Tryd.pinned (OpenSpec.upto digestPlaysSpec)

/-- 'pintlelaw8.DigestOfs', WHERE WHAT IT READS IS OF BULK AT MOST 1048576: true; the input reads as it did. -/
def digestOfsUptoRow : OpenClaim := { program := "ythciddlfnajchaadoor", sum := "9b3c6da3a11f7a14f02c0c390ff450a9d41a887930d87d08cf5e73f2d76ed737", func := "pintle/pintlelaw8.DigestOfs", spec := "digestOfs", inPlace := ["sync/atomic.AddInt64", "sync/atomic.LoadInt64"], unfollowed := true, recurses := true, named := ["pintle/api.ErrArg"], apart := false, laid := [("pintle/api.ErrArg", laid_pintle_api_ErrArg)], narrowed := true }
def DigestOfsUptoSaid : Prop := digestOfsUptoRow.holds Tryd.pinned (OpenSpec.upto digestOfsSpec)

end Rows
end Go.Proofs.YthciddlfnajchaaDoor
