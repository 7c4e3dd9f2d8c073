/-
  No cell of these rows narrows 'for every input' (looked for: loops, veiled, ifaces, maps, wideKeys, modest, calm, conditions, laid).
  DERIVED. THE GIVEN ROWS OF THIS SEAT. 8 by the template 'for every input the law returns true; each argument reads behind the call as it read before'; 0 by the template 'total and deterministic' (their statements: YtejcjdhplpjpjaaTotals.lean).
  GIVEN WITH THE SEED: the statements are not yours to turn. If you find one false, say at which input.
  Laid BY PROGRAM, IN A SANDBOX (cutbox-rows.mjs): the forced cells as the released guide's own fill.sh prints them over the translation 9a669496df532b17… (all of the seat's roots in one cut). By AI agents, Wed Nov 11 2026. No macro, syntax, notation, axiom, sorry.
-/
import Derived.Test.YtejcjdhplpjpjaaChecked
import GoSem.Claim
import GoSem.ClaimJoined
import GoSem.ClaimMapViews
import Derived.JoinedTies
import Derived.KernelRfl
namespace Go.Proofs.Ytejcjdhplpjpjaa
/- THE CELL 'sum', in the pinned program and in every row, IS THE sha256 OF THE DUMP (.gsa) THAT YtejcjdhplpjpjaaProg.lean LOADS. Nothing in Lean hashes anything: it is a label: what it is worth is what the hold of that sum in a sandbox is worth. -/
noncomputable def Try.pinned : Pinned := { name := "ytejcjdhplpjpjaa", sum := "9a669496df532b17a6dba26cfe08f17bb9eb523af2995527dbb1dc1a968c3963", checked := Try.checked }
namespace Rows
def none {H : Type} : Left H := { results := [], args := [] }

/-- 'pintlelaw7.MacTwo': WHATEVER THE INPUT: true; the input reads as it did. -/
def macTwoSpec : ChangeSpec := { name := "macTwo", fn := fun _ => fun
  | [d1, d2, d3] => { results := [.lit (.bool true)], args := [d1, d2, d3] }
  | _ => none }
def macTwoRow : OpenClaim := { program := "ytejcjdhplpjpjaa", sum := "9a669496df532b17a6dba26cfe08f17bb9eb523af2995527dbb1dc1a968c3963", func := "pintle/pintlelaw7.MacTwo", spec := "macTwo", inPlace := ["sync/atomic.AddInt64", "math/bits.Add64", "sync/atomic.LoadInt64"], apart := false }
def MacTwoSaid : Prop := macTwoRow.holds Try.pinned (OpenSpec.ofChange macTwoSpec)

/-- ITS FALSE NEIGHBOUR: 'it returns false'. Refute it at one input. -/
def macTwoWrong : ChangeSpec := { name := "macTwo", fn := fun _ => fun
  | [d1, d2, d3] => { results := [.lit (.bool false)], args := [d1, d2, d3] }
  | _ => none }
def MacTwoWrongFalsely : Prop := macTwoRow.holds Try.pinned (OpenSpec.ofChange macTwoWrong)

/-- 'pintlelaw7.MacNothing': WHATEVER THE INPUT: true; the input reads as it did. -/
def macNothingSpec : ChangeSpec := { name := "macNothing", fn := fun _ => fun
  | [d] => { results := [.lit (.bool true)], args := [d] }
  | _ => none }
def macNothingRow : OpenClaim := { program := "ytejcjdhplpjpjaa", sum := "9a669496df532b17a6dba26cfe08f17bb9eb523af2995527dbb1dc1a968c3963", func := "pintle/pintlelaw7.MacNothing", spec := "macNothing", inPlace := ["sync/atomic.AddInt64", "math/bits.Add64", "sync/atomic.LoadInt64"], apart := false }
def MacNothingSaid : Prop := macNothingRow.holds Try.pinned (OpenSpec.ofChange macNothingSpec)

/-- ITS FALSE NEIGHBOUR: 'it returns false'. Refute it at one input. -/
def macNothingWrong : ChangeSpec := { name := "macNothing", fn := fun _ => fun
  | [d] => { results := [.lit (.bool false)], args := [d] }
  | _ => none }
def MacNothingWrongFalsely : Prop := macNothingRow.holds Try.pinned (OpenSpec.ofChange macNothingWrong)

/-- 'pintlelaw7.MacCuts': WHATEVER THE INPUT: true; the input reads as it did. -/
def macCutsSpec : ChangeSpec := { name := "macCuts", fn := fun _ => fun
  | [d1, d2, d3] => { results := [.lit (.bool true)], args := [d1, d2, d3] }
  | _ => none }
def macCutsRow : OpenClaim := { program := "ytejcjdhplpjpjaa", sum := "9a669496df532b17a6dba26cfe08f17bb9eb523af2995527dbb1dc1a968c3963", func := "pintle/pintlelaw7.MacCuts", spec := "macCuts", inPlace := ["sync/atomic.AddInt64", "math/bits.Add64", "sync/atomic.LoadInt64"], apart := false }
def MacCutsSaid : Prop := macCutsRow.holds Try.pinned (OpenSpec.ofChange macCutsSpec)

/-- ITS FALSE NEIGHBOUR: 'it returns false'. Refute it at one input. -/
def macCutsWrong : ChangeSpec := { name := "macCuts", fn := fun _ => fun
  | [d1, d2, d3] => { results := [.lit (.bool false)], args := [d1, d2, d3] }
  | _ => none }
def MacCutsWrongFalsely : Prop := macCutsRow.holds Try.pinned (OpenSpec.ofChange macCutsWrong)

/-- 'pintlelaw7.MacRight': WHATEVER THE INPUT: true; the input reads as it did. -/
def macRightSpec : ChangeSpec := { name := "macRight", fn := fun _ => fun
  | [d1, d2, d3, d4] => { results := [.lit (.bool true)], args := [d1, d2, d3, d4] }
  | _ => none }
def macRightRow : OpenClaim := { program := "ytejcjdhplpjpjaa", sum := "9a669496df532b17a6dba26cfe08f17bb9eb523af2995527dbb1dc1a968c3963", func := "pintle/pintlelaw7.MacRight", spec := "macRight", inPlace := ["sync/atomic.AddInt64", "math/bits.Add64", "sync/atomic.LoadInt64"], apart := false }
def MacRightSaid : Prop := macRightRow.holds Try.pinned (OpenSpec.ofChange macRightSpec)

/-- ITS FALSE NEIGHBOUR: 'it returns false'. Refute it at one input. -/
def macRightWrong : ChangeSpec := { name := "macRight", fn := fun _ => fun
  | [d1, d2, d3, d4] => { results := [.lit (.bool false)], args := [d1, d2, d3, d4] }
  | _ => none }
def MacRightWrongFalsely : Prop := macRightRow.holds Try.pinned (OpenSpec.ofChange macRightWrong)

/-- 'pintlelaw7.MacPlays': WHATEVER THE INPUT: true; the input reads as it did. -/
def macPlaysSpec : ChangeSpec := { name := "macPlays", fn := fun _ => fun
  | [d1, d2] => { results := [.lit (.bool true)], args := [d1, d2] }
  | _ => none }
def macPlaysRow : OpenClaim := { program := "ytejcjdhplpjpjaa", sum := "9a669496df532b17a6dba26cfe08f17bb9eb523af2995527dbb1dc1a968c3963", func := "pintle/pintlelaw7.MacPlays", spec := "macPlays", inPlace := ["sync/atomic.LoadInt64", "sync/atomic.AddInt64", "math/bits.Add64"], unfollowed := true, recurses := true, apart := false }
def MacPlaysSaid : Prop := macPlaysRow.holds Try.pinned (OpenSpec.ofChange macPlaysSpec)

/-- ITS FALSE NEIGHBOUR: 'it returns false'. Refute it at one input. -/
def macPlaysWrong : ChangeSpec := { name := "macPlays", fn := fun _ => fun
  | [d1, d2] => { results := [.lit (.bool false)], args := [d1, d2] }
  | _ => none }
def MacPlaysWrongFalsely : Prop := macPlaysRow.holds Try.pinned (OpenSpec.ofChange macPlaysWrong)

/-- 'pintlelaw7.MacOfs': WHATEVER THE INPUT: true; the input reads as it did. -/
def macOfsSpec : ChangeSpec := { name := "macOfs", fn := fun _ => fun
  | [d1, d2] => { results := [.lit (.bool true)], args := [d1, d2] }
  | _ => none }
def macOfsRow : OpenClaim := { program := "ytejcjdhplpjpjaa", sum := "9a669496df532b17a6dba26cfe08f17bb9eb523af2995527dbb1dc1a968c3963", func := "pintle/pintlelaw7.MacOfs", spec := "macOfs", inPlace := ["sync/atomic.AddInt64", "math/bits.Add64", "sync/atomic.LoadInt64"], unfollowed := true, recurses := true, apart := false }
def MacOfsSaid : Prop := macOfsRow.holds Try.pinned (OpenSpec.ofChange macOfsSpec)

/-- ITS FALSE NEIGHBOUR: 'it returns false'. Refute it at one input. -/
def macOfsWrong : ChangeSpec := { name := "macOfs", fn := fun _ => fun
  | [d1, d2] => { results := [.lit (.bool false)], args := [d1, d2] }
  | _ => none }
def MacOfsWrongFalsely : Prop := macOfsRow.holds Try.pinned (OpenSpec.ofChange macOfsWrong)

/-- 'pintlelaw7.MacChecks': WHATEVER THE INPUT: true; the input reads as it did. -/
def macChecksSpec : ChangeSpec := { name := "macChecks", fn := fun _ => fun
  | [d1, d2, d3] => { results := [.lit (.bool true)], args := [d1, d2, d3] }
  | _ => none }
def macChecksRow : OpenClaim := { program := "ytejcjdhplpjpjaa", sum := "9a669496df532b17a6dba26cfe08f17bb9eb523af2995527dbb1dc1a968c3963", func := "pintle/pintlelaw7.MacChecks", spec := "macChecks", inPlace := ["sync/atomic.AddInt64", "math/bits.Add64", "sync/atomic.LoadInt64"], unfollowed := true, recurses := true, apart := false }
def MacChecksSaid : Prop := macChecksRow.holds Try.pinned (OpenSpec.ofChange macChecksSpec)

/-- ITS FALSE NEIGHBOUR: 'it returns false'. Refute it at one input. -/
def macChecksWrong : ChangeSpec := { name := "macChecks", fn := fun _ => fun
  | [d1, d2, d3] => { results := [.lit (.bool false)], args := [d1, d2, d3] }
  | _ => none }
def MacChecksWrongFalsely : Prop := macChecksRow.holds Try.pinned (OpenSpec.ofChange macChecksWrong)

/-- 'pintlelaw7.MacBlind': WHATEVER THE INPUT: true; the input reads as it did. -/
def macBlindSpec : ChangeSpec := { name := "macBlind", fn := fun _ => fun
  | [d1, d2, d3, d4, d5] => { results := [.lit (.bool true)], args := [d1, d2, d3, d4, d5] }
  | _ => none }
def macBlindRow : OpenClaim := { program := "ytejcjdhplpjpjaa", sum := "9a669496df532b17a6dba26cfe08f17bb9eb523af2995527dbb1dc1a968c3963", func := "pintle/pintlelaw7.MacBlind", spec := "macBlind", inPlace := ["sync/atomic.AddInt64", "math/bits.Add64", "sync/atomic.LoadInt64"], unfollowed := true, recurses := true, apart := false }
def MacBlindSaid : Prop := macBlindRow.holds Try.pinned (OpenSpec.ofChange macBlindSpec)

/-- ITS FALSE NEIGHBOUR: 'it returns false'. Refute it at one input. -/
def macBlindWrong : ChangeSpec := { name := "macBlind", fn := fun _ => fun
  | [d1, d2, d3, d4, d5] => { results := [.lit (.bool false)], args := [d1, d2, d3, d4, d5] }
  | _ => none }
def MacBlindWrongFalsely : Prop := macBlindRow.holds Try.pinned (OpenSpec.ofChange macBlindWrong)

/- THE SECOND FORM. 'bulk': how many values and letters a reading holds, each counted each time it is reached (what is shared counts as often as it is met; a slice's spare places count too). A statement '..UptoSaid' is the law's where the arguments, and the package variables that the reading takes, are together of bulk at most 1048576: NARROWER than '..Said'. Prove '..Said' where nothing that the law and all that it calls make is longer than what came in: it says more and counts as full. Else prove '..UptoSaid'. A law counts once. -/
mutual
def uptoBulk {H : Type} : DataW H → Nat
  | .lit (.string bytes) => bytes.length + 1
  | .lit _ => 1
  | .nil => 1
  | .ptr d => uptoBulk d + 1
  | .slice elems spare => uptoBulkAll elems + uptoBulkAll spare + 1
  | .agg parts => uptoBulkAll parts + 1
  | .iface _ d => uptoBulk d + 1
  | .map entries => uptoBulkEntries entries + 1
  | .held _ => 1
def uptoBulkAll {H : Type} : List (DataW H) → Nat
  | [] => 0
  | d :: r => uptoBulk d + uptoBulkAll r
def uptoBulkEntries {H : Type} : List (Lit × DataW H) → Nat
  | [] => 0
  | x :: r => uptoBulkEntry x + uptoBulkEntries r
def uptoBulkEntry {H : Type} : Lit × DataW H → Nat
  | (.string bytes, d) => bytes.length + uptoBulk d + 1
  | (_, d) => uptoBulk d + 1
 end
def uptoSmall : (H : Type) → List (DataW H) → Bool := fun _ ds => decide (uptoBulkAll ds ≤ 1048576)
def OpenSpec.upto (s : _root_.Go.ChangeSpec) : _root_.Go.OpenSpec := { _root_.Go.OpenSpec.ofChange s with cond := some uptoSmall }

/-- 'pintlelaw7.MacTwo', WHERE WHAT IT READS IS OF BULK AT MOST 1048576: true; the input reads as it did. -/
def macTwoUptoRow : OpenClaim := { program := "ytejcjdhplpjpjaa", sum := "9a669496df532b17a6dba26cfe08f17bb9eb523af2995527dbb1dc1a968c3963", func := "pintle/pintlelaw7.MacTwo", spec := "macTwo", inPlace := ["sync/atomic.AddInt64", "math/bits.Add64", "sync/atomic.LoadInt64"], apart := false, narrowed := true }
def MacTwoUptoSaid : Prop := macTwoUptoRow.holds Try.pinned (OpenSpec.upto macTwoSpec)

/-- 'pintlelaw7.MacNothing', WHERE WHAT IT READS IS OF BULK AT MOST 1048576: true; the input reads as it did. -/
def macNothingUptoRow : OpenClaim := { program := "ytejcjdhplpjpjaa", sum := "9a669496df532b17a6dba26cfe08f17bb9eb523af2995527dbb1dc1a968c3963", func := "pintle/pintlelaw7.MacNothing", spec := "macNothing", inPlace := ["sync/atomic.AddInt64", "math/bits.Add64", "sync/atomic.LoadInt64"], apart := false, narrowed := true }
def MacNothingUptoSaid : Prop := macNothingUptoRow.holds Try.pinned (OpenSpec.upto macNothingSpec)

/-- 'pintlelaw7.MacCuts', WHERE WHAT IT READS IS OF BULK AT MOST 1048576: true; the input reads as it did. -/
def macCutsUptoRow : OpenClaim := { program := "ytejcjdhplpjpjaa", sum := "9a669496df532b17a6dba26cfe08f17bb9eb523af2995527dbb1dc1a968c3963", func := "pintle/pintlelaw7.MacCuts", spec := "macCuts", inPlace := ["sync/atomic.AddInt64", "math/bits.Add64", "sync/atomic.LoadInt64"], apart := false, narrowed := true }
def MacCutsUptoSaid : Prop := macCutsUptoRow.holds Try.pinned (OpenSpec.upto macCutsSpec)

/-- 'pintlelaw7.MacRight', WHERE WHAT IT READS IS OF BULK AT MOST 1048576: true; the input reads as it did. -/
def macRightUptoRow : OpenClaim := { program := "ytejcjdhplpjpjaa", sum := "9a669496df532b17a6dba26cfe08f17bb9eb523af2995527dbb1dc1a968c3963", func := "pintle/pintlelaw7.MacRight", spec := "macRight", inPlace := ["sync/atomic.AddInt64", "math/bits.Add64", "sync/atomic.LoadInt64"], apart := false, narrowed := true }
def MacRightUptoSaid : Prop := macRightUptoRow.holds Try.pinned (OpenSpec.upto macRightSpec)

/-- 'pintlelaw7.MacPlays', WHERE WHAT IT READS IS OF BULK AT MOST 1048576: true; the input reads as it did. -/
def macPlaysUptoRow : OpenClaim := { program := "ytejcjdhplpjpjaa", sum := "9a669496df532b17a6dba26cfe08f17bb9eb523af2995527dbb1dc1a968c3963", func := "pintle/pintlelaw7.MacPlays", spec := "macPlays", inPlace := ["sync/atomic.LoadInt64", "sync/atomic.AddInt64", "math/bits.Add64"], unfollowed := true, recurses := true, apart := false, narrowed := true }
def MacPlaysUptoSaid : Prop := macPlaysUptoRow.holds Try.pinned (OpenSpec.upto macPlaysSpec)

/-- 'pintlelaw7.MacOfs', WHERE WHAT IT READS IS OF BULK AT MOST 1048576: true; the input reads as it did. -/
def macOfsUptoRow : OpenClaim := { program := "ytejcjdhplpjpjaa", sum := "9a669496df532b17a6dba26cfe08f17bb9eb523af2995527dbb1dc1a968c3963", func := "pintle/pintlelaw7.MacOfs", spec := "macOfs", inPlace := ["sync/atomic.AddInt64", "math/bits.Add64", "sync/atomic.LoadInt64"], unfollowed := true, recurses := true, apart := false, narrowed := true }
def MacOfsUptoSaid : Prop := macOfsUptoRow.holds Try.pinned (OpenSpec.upto macOfsSpec)

/-- 'pintlelaw7.MacChecks', WHERE WHAT IT READS IS OF BULK AT MOST 1048576: true; the input reads as it did. -/
def macChecksUptoRow : OpenClaim := { program := "ytejcjdhplpjpjaa", sum := "9a669496df532b17a6dba26cfe08f17bb9eb523af2995527dbb1dc1a968c3963", func := "pintle/pintlelaw7.MacChecks", spec := "macChecks", inPlace := ["sync/atomic.AddInt64", "math/bits.Add64", "sync/atomic.LoadInt64"], unfollowed := true, recurses := true, apart := false, narrowed := true }
def MacChecksUptoSaid : Prop := macChecksUptoRow.holds Try.pinned (OpenSpec.upto macChecksSpec)

/-- 'pintlelaw7.MacBlind', WHERE WHAT IT READS IS OF BULK AT MOST 1048576: true; the input reads as it did. -/
def macBlindUptoRow : OpenClaim := { program := "ytejcjdhplpjpjaa", sum := "9a669496df532b17a6dba26cfe08f17bb9eb523af2995527dbb1dc1a968c3963", func := "pintle/pintlelaw7.MacBlind", spec := "macBlind", inPlace := ["sync/atomic.AddInt64", "math/bits.Add64", "sync/atomic.LoadInt64"], unfollowed := true, recurses := true, apart := false, narrowed := true }
def MacBlindUptoSaid : Prop := macBlindUptoRow.holds Try.pinned (OpenSpec.upto macBlindSpec)

end Rows
end Go.Proofs.Ytejcjdhplpjpjaa
