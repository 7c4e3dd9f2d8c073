/-
  No cell of these rows narrows 'for every input' (looked for: loops, veiled, ifaces, maps, wideKeys, modest, calm, conditions, laid).
  DERIVED. THE GIVEN ROWS OF THIS SEAT. 7 by the template 'for every input the law returns true; each argument reads behind the call as it read before'; 0 by the template 'total and deterministic' (their statements: YtghdadkpbofbbaaTotals.lean).
  GIVEN WITH THE SEED: the statements are not yours to turn. If you find one false, say at which input.
  Laid BY PROGRAM, IN A SANDBOX (cutbox-rows.mjs): the forced cells as the released guide's own fill.sh prints them over the translation 08657073af69b5c9… (all of the seat's roots in one cut). By AI agents, Wed Nov 11 2026. No macro, syntax, notation, axiom, sorry.
-/
import Derived.Test.YtghdadkpbofbbaaChecked
import GoSem.Claim
import GoSem.ClaimJoined
import GoSem.ClaimMapViews
import Derived.JoinedTies
import Derived.KernelRfl
namespace Go.Proofs.Ytghdadkpbofbbaa
/- THE CELL 'sum', in the pinned program and in every row, IS THE sha256 OF THE DUMP (.gsa) THAT YtghdadkpbofbbaaProg.lean LOADS. Nothing in Lean hashes anything: it is a label: what it is worth is what the hold of that sum in a sandbox is worth. -/
noncomputable def Try.pinned : Pinned := { name := "ytghdadkpbofbbaa", sum := "08657073af69b5c990146c9830a2b2c0d3806a57e245261d7a8dcf3a0b8c96a1", checked := Try.checked }
namespace Rows
def none {H : Type} : Left H := { results := [], args := [] }

/-- 'pintlelaw3.FieldGrows': WHATEVER THE INPUT: true; the input reads as it did. -/
def fieldGrowsSpec : ChangeSpec := { name := "fieldGrows", fn := fun _ => fun
  | [d1, d2, d3] => { results := [.lit (.bool true)], args := [d1, d2, d3] }
  | _ => none }
def fieldGrowsRow : OpenClaim := { program := "ytghdadkpbofbbaa", sum := "08657073af69b5c990146c9830a2b2c0d3806a57e245261d7a8dcf3a0b8c96a1", func := "pintle/pintlelaw3.FieldGrows", spec := "fieldGrows", inPlace := ["sync/atomic.AddInt64", "math/bits.Add64", "sync/atomic.LoadInt64"], apart := false }
def FieldGrowsSaid : Prop := fieldGrowsRow.holds Try.pinned (OpenSpec.ofChange fieldGrowsSpec)

/-- ITS FALSE NEIGHBOUR: 'it returns false'. Refute it at one input. -/
def fieldGrowsWrong : ChangeSpec := { name := "fieldGrows", fn := fun _ => fun
  | [d1, d2, d3] => { results := [.lit (.bool false)], args := [d1, d2, d3] }
  | _ => none }
def FieldGrowsWrongFalsely : Prop := fieldGrowsRow.holds Try.pinned (OpenSpec.ofChange fieldGrowsWrong)

/-- 'pintlelaw3.FieldDecodes': WHATEVER THE INPUT: true; the input reads as it did. -/
def fieldDecodesSpec : ChangeSpec := { name := "fieldDecodes", fn := fun _ => fun
  | [d] => { results := [.lit (.bool true)], args := [d] }
  | _ => none }
def fieldDecodesRow : OpenClaim := { program := "ytghdadkpbofbbaa", sum := "08657073af69b5c990146c9830a2b2c0d3806a57e245261d7a8dcf3a0b8c96a1", func := "pintle/pintlelaw3.FieldDecodes", spec := "fieldDecodes", inPlace := ["sync/atomic.AddInt64", "math/bits.Add64", "sync/atomic.LoadInt64"], apart := false }
def FieldDecodesSaid : Prop := fieldDecodesRow.holds Try.pinned (OpenSpec.ofChange fieldDecodesSpec)

/-- ITS FALSE NEIGHBOUR: 'it returns false'. Refute it at one input. -/
def fieldDecodesWrong : ChangeSpec := { name := "fieldDecodes", fn := fun _ => fun
  | [d] => { results := [.lit (.bool false)], args := [d] }
  | _ => none }
def FieldDecodesWrongFalsely : Prop := fieldDecodesRow.holds Try.pinned (OpenSpec.ofChange fieldDecodesWrong)

/-- 'pintlelaw3.FieldRing': WHATEVER THE INPUT: true; the input reads as it did. -/
def fieldRingSpec : ChangeSpec := { name := "fieldRing", fn := fun _ => fun
  | [d1, d2, d3, d4] => { results := [.lit (.bool true)], args := [d1, d2, d3, d4] }
  | _ => none }
def fieldRingRow : OpenClaim := { program := "ytghdadkpbofbbaa", sum := "08657073af69b5c990146c9830a2b2c0d3806a57e245261d7a8dcf3a0b8c96a1", func := "pintle/pintlelaw3.FieldRing", spec := "fieldRing", inPlace := ["sync/atomic.AddInt64", "math/bits.Add64", "sync/atomic.LoadInt64"], apart := false }
def FieldRingSaid : Prop := fieldRingRow.holds Try.pinned (OpenSpec.ofChange fieldRingSpec)

/-- ITS FALSE NEIGHBOUR: 'it returns false'. Refute it at one input. -/
def fieldRingWrong : ChangeSpec := { name := "fieldRing", fn := fun _ => fun
  | [d1, d2, d3, d4] => { results := [.lit (.bool false)], args := [d1, d2, d3, d4] }
  | _ => none }
def FieldRingWrongFalsely : Prop := fieldRingRow.holds Try.pinned (OpenSpec.ofChange fieldRingWrong)

/-- 'pintlelaw3.FieldInverts': WHATEVER THE INPUT: true; the input reads as it did. -/
def fieldInvertsSpec : ChangeSpec := { name := "fieldInverts", fn := fun _ => fun
  | [d1, d2] => { results := [.lit (.bool true)], args := [d1, d2] }
  | _ => none }
def fieldInvertsRow : OpenClaim := { program := "ytghdadkpbofbbaa", sum := "08657073af69b5c990146c9830a2b2c0d3806a57e245261d7a8dcf3a0b8c96a1", func := "pintle/pintlelaw3.FieldInverts", spec := "fieldInverts", inPlace := ["sync/atomic.AddInt64", "math/bits.Add64", "sync/atomic.LoadInt64"], apart := false }
def FieldInvertsSaid : Prop := fieldInvertsRow.holds Try.pinned (OpenSpec.ofChange fieldInvertsSpec)

/-- ITS FALSE NEIGHBOUR: 'it returns false'. Refute it at one input. -/
def fieldInvertsWrong : ChangeSpec := { name := "fieldInverts", fn := fun _ => fun
  | [d1, d2] => { results := [.lit (.bool false)], args := [d1, d2] }
  | _ => none }
def FieldInvertsWrongFalsely : Prop := fieldInvertsRow.holds Try.pinned (OpenSpec.ofChange fieldInvertsWrong)

/-- 'pintlelaw3.FieldSilent': WHATEVER THE INPUT: true; the input reads as it did. -/
def fieldSilentSpec : ChangeSpec := { name := "fieldSilent", fn := fun _ => fun
  | [d1, d2] => { results := [.lit (.bool true)], args := [d1, d2] }
  | _ => none }
def fieldSilentRow : OpenClaim := { program := "ytghdadkpbofbbaa", sum := "08657073af69b5c990146c9830a2b2c0d3806a57e245261d7a8dcf3a0b8c96a1", func := "pintle/pintlelaw3.FieldSilent", spec := "fieldSilent", inPlace := ["sync/atomic.AddInt64", "math/bits.Add64", "sync/atomic.LoadInt64"], apart := false }
def FieldSilentSaid : Prop := fieldSilentRow.holds Try.pinned (OpenSpec.ofChange fieldSilentSpec)

/-- ITS FALSE NEIGHBOUR: 'it returns false'. Refute it at one input. -/
def fieldSilentWrong : ChangeSpec := { name := "fieldSilent", fn := fun _ => fun
  | [d1, d2] => { results := [.lit (.bool false)], args := [d1, d2] }
  | _ => none }
def FieldSilentWrongFalsely : Prop := fieldSilentRow.holds Try.pinned (OpenSpec.ofChange fieldSilentWrong)

/-- 'pintlelaw3.FieldSwaps': WHATEVER THE INPUT: true; the input reads as it did. -/
def fieldSwapsSpec : ChangeSpec := { name := "fieldSwaps", fn := fun _ => fun
  | [d1, d2, d3] => { results := [.lit (.bool true)], args := [d1, d2, d3] }
  | _ => none }
def fieldSwapsRow : OpenClaim := { program := "ytghdadkpbofbbaa", sum := "08657073af69b5c990146c9830a2b2c0d3806a57e245261d7a8dcf3a0b8c96a1", func := "pintle/pintlelaw3.FieldSwaps", spec := "fieldSwaps", inPlace := ["sync/atomic.AddInt64", "math/bits.Add64", "sync/atomic.LoadInt64"], apart := false }
def FieldSwapsSaid : Prop := fieldSwapsRow.holds Try.pinned (OpenSpec.ofChange fieldSwapsSpec)

/-- ITS FALSE NEIGHBOUR: 'it returns false'. Refute it at one input. -/
def fieldSwapsWrong : ChangeSpec := { name := "fieldSwaps", fn := fun _ => fun
  | [d1, d2, d3] => { results := [.lit (.bool false)], args := [d1, d2, d3] }
  | _ => none }
def FieldSwapsWrongFalsely : Prop := fieldSwapsRow.holds Try.pinned (OpenSpec.ofChange fieldSwapsWrong)

/-- 'pintlelaw3.FieldPlays': WHATEVER THE INPUT: true; the input reads as it did. -/
def fieldPlaysSpec : ChangeSpec := { name := "fieldPlays", fn := fun _ => fun
  | [d] => { results := [.lit (.bool true)], args := [d] }
  | _ => none }
def fieldPlaysRow : OpenClaim := { program := "ytghdadkpbofbbaa", sum := "08657073af69b5c990146c9830a2b2c0d3806a57e245261d7a8dcf3a0b8c96a1", func := "pintle/pintlelaw3.FieldPlays", spec := "fieldPlays", inPlace := ["sync/atomic.AddInt64", "math/bits.Add64", "sync/atomic.LoadInt64"], unfollowed := true, recurses := true, apart := false }
def FieldPlaysSaid : Prop := fieldPlaysRow.holds Try.pinned (OpenSpec.ofChange fieldPlaysSpec)

/-- ITS FALSE NEIGHBOUR: 'it returns false'. Refute it at one input. -/
def fieldPlaysWrong : ChangeSpec := { name := "fieldPlays", fn := fun _ => fun
  | [d] => { results := [.lit (.bool false)], args := [d] }
  | _ => none }
def FieldPlaysWrongFalsely : Prop := fieldPlaysRow.holds Try.pinned (OpenSpec.ofChange fieldPlaysWrong)

/- THE SECOND FORM. 'bulk': how many values and letters a reading holds, each counted each time it is reached (what is shared counts as often as it is met; a slice's spare places count too). A statement '..UptoSaid' is the law's where the arguments, and the package variables that the reading takes, are together of bulk at most 1048576: NARROWER than '..Said'. Prove '..Said' where nothing that the law and all that it calls make is longer than what came in: it says more and counts as full. Else prove '..UptoSaid'. A law counts once. -/
mutual
def uptoBulk {H : Type} : DataW H → Nat
  | .lit (.string bytes) => bytes.length + 1
  | .lit _ => 1
  | .nil => 1
  | .ptr d => uptoBulk d + 1
  | .slice elems spare => uptoBulkAll elems + uptoBulkAll spare + 1
  | .agg parts => uptoBulkAll parts + 1
  | .iface _ d => uptoBulk d + 1
  | .map entries => uptoBulkEntries entries + 1
  | .held _ => 1
def uptoBulkAll {H : Type} : List (DataW H) → Nat
  | [] => 0
  | d :: r => uptoBulk d + uptoBulkAll r
def uptoBulkEntries {H : Type} : List (Lit × DataW H) → Nat
  | [] => 0
  | x :: r => uptoBulkEntry x + uptoBulkEntries r
def uptoBulkEntry {H : Type} : Lit × DataW H → Nat
  | (.string bytes, d) => bytes.length + uptoBulk d + 1
  | (_, d) => uptoBulk d + 1
 end
def uptoSmall : (H : Type) → List (DataW H) → Bool := fun _ ds => decide (uptoBulkAll ds ≤ 1048576)
def OpenSpec.upto (s : _root_.Go.ChangeSpec) : _root_.Go.OpenSpec := { _root_.Go.OpenSpec.ofChange s with cond := some uptoSmall }

/-- 'pintlelaw3.FieldGrows', WHERE WHAT IT READS IS OF BULK AT MOST 1048576: true; the input reads as it did. -/
def fieldGrowsUptoRow : OpenClaim := { program := "ytghdadkpbofbbaa", sum := "08657073af69b5c990146c9830a2b2c0d3806a57e245261d7a8dcf3a0b8c96a1", func := "pintle/pintlelaw3.FieldGrows", spec := "fieldGrows", inPlace := ["sync/atomic.AddInt64", "math/bits.Add64", "sync/atomic.LoadInt64"], apart := false, narrowed := true }
def FieldGrowsUptoSaid : Prop := fieldGrowsUptoRow.holds Try.pinned (OpenSpec.upto fieldGrowsSpec)

/-- 'pintlelaw3.FieldDecodes', WHERE WHAT IT READS IS OF BULK AT MOST 1048576: true; the input reads as it did. -/
def fieldDecodesUptoRow : OpenClaim := { program := "ytghdadkpbofbbaa", sum := "08657073af69b5c990146c9830a2b2c0d3806a57e245261d7a8dcf3a0b8c96a1", func := "pintle/pintlelaw3.FieldDecodes", spec := "fieldDecodes", inPlace := ["sync/atomic.AddInt64", "math/bits.Add64", "sync/atomic.LoadInt64"], apart := false, narrowed := true }
def FieldDecodesUptoSaid : Prop := fieldDecodesUptoRow.holds Try.pinned (OpenSpec.upto fieldDecodesSpec)

/-- 'pintlelaw3.FieldRing', WHERE WHAT IT READS IS OF BULK AT MOST 1048576: true; the input reads as it did. -/
def fieldRingUptoRow : OpenClaim := { program := "ytghdadkpbofbbaa", sum := "08657073af69b5c990146c9830a2b2c0d3806a57e245261d7a8dcf3a0b8c96a1", func := "pintle/pintlelaw3.FieldRing", spec := "fieldRing", inPlace := ["sync/atomic.AddInt64", "math/bits.Add64", "sync/atomic.LoadInt64"], apart := false, narrowed := true }
def FieldRingUptoSaid : Prop := fieldRingUptoRow.holds Try.pinned (OpenSpec.upto fieldRingSpec)

/-- 'pintlelaw3.FieldInverts', WHERE WHAT IT READS IS OF BULK AT MOST 1048576: true; the input reads as it did. -/
def fieldInvertsUptoRow : OpenClaim := { program := "ytghdadkpbofbbaa", sum := "08657073af69b5c990146c9830a2b2c0d3806a57e245261d7a8dcf3a0b8c96a1", func := "pintle/pintlelaw3.FieldInverts", spec := "fieldInverts", inPlace := ["sync/atomic.AddInt64", "math/bits.Add64", "sync/atomic.LoadInt64"], apart := false, narrowed := true }
def FieldInvertsUptoSaid : Prop := fieldInvertsUptoRow.holds Try.pinned (OpenSpec.upto fieldInvertsSpec)

/-- 'pintlelaw3.FieldSilent', WHERE WHAT IT READS IS OF BULK AT MOST 1048576: true; the input reads as it did. -/
def fieldSilentUptoRow : OpenClaim := { program := "ytghdadkpbofbbaa", sum := "08657073af69b5c990146c9830a2b2c0d3806a57e245261d7a8dcf3a0b8c96a1", func := "pintle/pintlelaw3.FieldSilent", spec := "fieldSilent", inPlace := ["sync/atomic.AddInt64", "math/bits.Add64", "sync/atomic.LoadInt64"], apart := false, narrowed := true }
def FieldSilentUptoSaid : Prop := fieldSilentUptoRow.holds Try.pinned (OpenSpec.upto fieldSilentSpec)

/-- 'pintlelaw3.FieldSwaps', WHERE WHAT IT READS IS OF BULK AT MOST 1048576: true; the input reads as it did. -/
def fieldSwapsUptoRow : OpenClaim := { program := "ytghdadkpbofbbaa", sum := "08657073af69b5c990146c9830a2b2c0d3806a57e245261d7a8dcf3a0b8c96a1", func := "pintle/pintlelaw3.FieldSwaps", spec := "fieldSwaps", inPlace := ["sync/atomic.AddInt64", "math/bits.Add64", "sync/atomic.LoadInt64"], apart := false, narrowed := true }
def FieldSwapsUptoSaid : Prop := fieldSwapsUptoRow.holds Try.pinned (OpenSpec.upto fieldSwapsSpec)

/-- 'pintlelaw3.FieldPlays', WHERE WHAT IT READS IS OF BULK AT MOST 1048576: true; the input reads as it did. -/
def fieldPlaysUptoRow : OpenClaim := { program := "ytghdadkpbofbbaa", sum := "08657073af69b5c990146c9830a2b2c0d3806a57e245261d7a8dcf3a0b8c96a1", func := "pintle/pintlelaw3.FieldPlays", spec := "fieldPlays", inPlace := ["sync/atomic.AddInt64", "math/bits.Add64", "sync/atomic.LoadInt64"], unfollowed := true, recurses := true, apart := false, narrowed := true }
def FieldPlaysUptoSaid : Prop := fieldPlaysUptoRow.holds Try.pinned (OpenSpec.upto fieldPlaysSpec)

end Rows
end Go.Proofs.Ytghdadkpbofbbaa
