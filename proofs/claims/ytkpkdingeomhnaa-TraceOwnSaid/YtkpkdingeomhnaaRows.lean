/-
  No cell of these rows narrows 'for every input' (looked for: loops, veiled, ifaces, maps, wideKeys, modest, calm, conditions, laid).
  DERIVED. THE GIVEN ROWS OF THIS SEAT. 6 by the template 'for every input the law returns true; each argument reads behind the call as it read before'; 0 by the template 'total and deterministic' (their statements: YtkpkdingeomhnaaTotals.lean).
  GIVEN WITH THE SEED: the statements are not yours to turn. If you find one false, say at which input.
  Laid BY PROGRAM, IN A SANDBOX (cutbox-rows.mjs): the forced cells as the released guide's own fill.sh prints them over the translation 15857bcf48668486… (all of the seat's roots in one cut). By AI agents, Wed Nov 11 2026. No macro, syntax, notation, axiom, sorry.
-/
import Derived.Test.YtkpkdingeomhnaaChecked
import GoSem.Claim
import GoSem.ClaimJoined
import GoSem.ClaimMapViews
import Derived.JoinedTies
import Derived.KernelRfl
namespace Go.Proofs.Ytkpkdingeomhnaa
/- THE CELL 'sum', in the pinned program and in every row, IS THE sha256 OF THE DUMP (.gsa) THAT YtkpkdingeomhnaaProg.lean LOADS. Nothing in Lean hashes anything: it is a label: what it is worth is what the hold of that sum in a sandbox is worth. -/
noncomputable def Try.pinned : Pinned := { name := "ytkpkdingeomhnaa", sum := "15857bcf4866848696d24fdde7c34415e562e47c226964ba21a2858962813229", checked := Try.checked }
namespace Rows
def none {H : Type} : Left H := { results := [], args := [] }

/-- 'pintlelaw2.TracePlays': WHATEVER THE INPUT: true; the input reads as it did. -/
def tracePlaysSpec : ChangeSpec := { name := "tracePlays", fn := fun _ => fun
  | [d] => { results := [.lit (.bool true)], args := [d] }
  | _ => none }
def tracePlaysRow : OpenClaim := { program := "ytkpkdingeomhnaa", sum := "15857bcf4866848696d24fdde7c34415e562e47c226964ba21a2858962813229", func := "pintle/pintlelaw2.TracePlays", spec := "tracePlays", inPlace := ["sync/atomic.AddInt64", "sync/atomic.LoadInt64"], unfollowed := true, recurses := true, apart := false }
def TracePlaysSaid : Prop := tracePlaysRow.holds Try.pinned (OpenSpec.ofChange tracePlaysSpec)

/-- ITS FALSE NEIGHBOUR: 'it returns false'. Refute it at one input. -/
def tracePlaysWrong : ChangeSpec := { name := "tracePlays", fn := fun _ => fun
  | [d] => { results := [.lit (.bool false)], args := [d] }
  | _ => none }
def TracePlaysWrongFalsely : Prop := tracePlaysRow.holds Try.pinned (OpenSpec.ofChange tracePlaysWrong)

/-- 'pintlelaw2.TraceSames': WHATEVER THE INPUT: true; the input reads as it did. -/
def traceSamesSpec : ChangeSpec := { name := "traceSames", fn := fun _ => fun
  | [d1, d2] => { results := [.lit (.bool true)], args := [d1, d2] }
  | _ => none }
def traceSamesRow : OpenClaim := { program := "ytkpkdingeomhnaa", sum := "15857bcf4866848696d24fdde7c34415e562e47c226964ba21a2858962813229", func := "pintle/pintlelaw2.TraceSames", spec := "traceSames", inPlace := ["sync/atomic.AddInt64", "sync/atomic.LoadInt64"], unfollowed := true, recurses := true, apart := false }
def TraceSamesSaid : Prop := traceSamesRow.holds Try.pinned (OpenSpec.ofChange traceSamesSpec)

/-- ITS FALSE NEIGHBOUR: 'it returns false'. Refute it at one input. -/
def traceSamesWrong : ChangeSpec := { name := "traceSames", fn := fun _ => fun
  | [d1, d2] => { results := [.lit (.bool false)], args := [d1, d2] }
  | _ => none }
def TraceSamesWrongFalsely : Prop := traceSamesRow.holds Try.pinned (OpenSpec.ofChange traceSamesWrong)

/-- 'pintlelaw2.TraceTwo': WHATEVER THE INPUT: true; the input reads as it did. -/
def traceTwoSpec : ChangeSpec := { name := "traceTwo", fn := fun _ => fun
  | [d1, d2] => { results := [.lit (.bool true)], args := [d1, d2] }
  | _ => none }
def traceTwoRow : OpenClaim := { program := "ytkpkdingeomhnaa", sum := "15857bcf4866848696d24fdde7c34415e562e47c226964ba21a2858962813229", func := "pintle/pintlelaw2.TraceTwo", spec := "traceTwo", inPlace := ["sync/atomic.AddInt64", "sync/atomic.LoadInt64"], unfollowed := true, recurses := true, apart := false }
def TraceTwoSaid : Prop := traceTwoRow.holds Try.pinned (OpenSpec.ofChange traceTwoSpec)

/-- ITS FALSE NEIGHBOUR: 'it returns false'. Refute it at one input. -/
def traceTwoWrong : ChangeSpec := { name := "traceTwo", fn := fun _ => fun
  | [d1, d2] => { results := [.lit (.bool false)], args := [d1, d2] }
  | _ => none }
def TraceTwoWrongFalsely : Prop := traceTwoRow.holds Try.pinned (OpenSpec.ofChange traceTwoWrong)

/-- 'pintlelaw2.TraceRuns': WHATEVER THE INPUT: true; the input reads as it did. -/
def traceRunsSpec : ChangeSpec := { name := "traceRuns", fn := fun _ => fun
  | [d] => { results := [.lit (.bool true)], args := [d] }
  | _ => none }
def traceRunsRow : OpenClaim := { program := "ytkpkdingeomhnaa", sum := "15857bcf4866848696d24fdde7c34415e562e47c226964ba21a2858962813229", func := "pintle/pintlelaw2.TraceRuns", spec := "traceRuns", inPlace := ["sync/atomic.AddInt64", "sync/atomic.LoadInt64"], unfollowed := true, recurses := true, apart := false }
def TraceRunsSaid : Prop := traceRunsRow.holds Try.pinned (OpenSpec.ofChange traceRunsSpec)

/-- ITS FALSE NEIGHBOUR: 'it returns false'. Refute it at one input. -/
def traceRunsWrong : ChangeSpec := { name := "traceRuns", fn := fun _ => fun
  | [d] => { results := [.lit (.bool false)], args := [d] }
  | _ => none }
def TraceRunsWrongFalsely : Prop := traceRunsRow.holds Try.pinned (OpenSpec.ofChange traceRunsWrong)

/-- 'pintlelaw2.TraceSince': WHATEVER THE INPUT: true; the input reads as it did. -/
def traceSinceSpec : ChangeSpec := { name := "traceSince", fn := fun _ => fun
  | [d1, d2, d3] => { results := [.lit (.bool true)], args := [d1, d2, d3] }
  | _ => none }
def traceSinceRow : OpenClaim := { program := "ytkpkdingeomhnaa", sum := "15857bcf4866848696d24fdde7c34415e562e47c226964ba21a2858962813229", func := "pintle/pintlelaw2.TraceSince", spec := "traceSince", inPlace := ["sync/atomic.AddInt64", "sync/atomic.LoadInt64"], unfollowed := true, recurses := true, apart := false }
def TraceSinceSaid : Prop := traceSinceRow.holds Try.pinned (OpenSpec.ofChange traceSinceSpec)

/-- ITS FALSE NEIGHBOUR: 'it returns false'. Refute it at one input. -/
def traceSinceWrong : ChangeSpec := { name := "traceSince", fn := fun _ => fun
  | [d1, d2, d3] => { results := [.lit (.bool false)], args := [d1, d2, d3] }
  | _ => none }
def TraceSinceWrongFalsely : Prop := traceSinceRow.holds Try.pinned (OpenSpec.ofChange traceSinceWrong)

/-- 'pintlelaw2.TraceOwn': WHATEVER THE INPUT: true; the input reads as it did. -/
def traceOwnSpec : ChangeSpec := { name := "traceOwn", fn := fun _ => fun
  | [d] => { results := [.lit (.bool true)], args := [d] }
  | _ => none }
def traceOwnRow : OpenClaim := { program := "ytkpkdingeomhnaa", sum := "15857bcf4866848696d24fdde7c34415e562e47c226964ba21a2858962813229", func := "pintle/pintlelaw2.TraceOwn", spec := "traceOwn", inPlace := ["sync/atomic.AddInt64", "sync/atomic.LoadInt64"], unfollowed := true, recurses := true, apart := false }
def TraceOwnSaid : Prop := traceOwnRow.holds Try.pinned (OpenSpec.ofChange traceOwnSpec)

/-- ITS FALSE NEIGHBOUR: 'it returns false'. Refute it at one input. -/
def traceOwnWrong : ChangeSpec := { name := "traceOwn", fn := fun _ => fun
  | [d] => { results := [.lit (.bool false)], args := [d] }
  | _ => none }
def TraceOwnWrongFalsely : Prop := traceOwnRow.holds Try.pinned (OpenSpec.ofChange traceOwnWrong)

/- THE SECOND FORM. 'bulk': how many values and letters a reading holds, each counted each time it is reached (what is shared counts as often as it is met; a slice's spare places count too). A statement '..UptoSaid' is the law's where the arguments, and the package variables that the reading takes, are together of bulk at most 1048576: NARROWER than '..Said'. Prove '..Said' where nothing that the law and all that it calls make is longer than what came in: it says more and counts as full. Else prove '..UptoSaid'. A law counts once. -/
mutual
def uptoBulk {H : Type} : DataW H → Nat
  | .lit (.string bytes) => bytes.length + 1
  | .lit _ => 1
  | .nil => 1
  | .ptr d => uptoBulk d + 1
  | .slice elems spare => uptoBulkAll elems + uptoBulkAll spare + 1
  | .agg parts => uptoBulkAll parts + 1
  | .iface _ d => uptoBulk d + 1
  | .map entries => uptoBulkEntries entries + 1
  | .held _ => 1
def uptoBulkAll {H : Type} : List (DataW H) → Nat
  | [] => 0
  | d :: r => uptoBulk d + uptoBulkAll r
def uptoBulkEntries {H : Type} : List (Lit × DataW H) → Nat
  | [] => 0
  | x :: r => uptoBulkEntry x + uptoBulkEntries r
def uptoBulkEntry {H : Type} : Lit × DataW H → Nat
  | (.string bytes, d) => bytes.length + uptoBulk d + 1
  | (_, d) => uptoBulk d + 1
 end
def uptoSmall : (H : Type) → List (DataW H) → Bool := fun _ ds => decide (uptoBulkAll ds ≤ 1048576)
def OpenSpec.upto (s : _root_.Go.ChangeSpec) : _root_.Go.OpenSpec := { _root_.Go.OpenSpec.ofChange s with cond := some uptoSmall }

/-- 'pintlelaw2.TracePlays', WHERE WHAT IT READS IS OF BULK AT MOST 1048576: true; the input reads as it did. -/
def tracePlaysUptoRow : OpenClaim := { program := "ytkpkdingeomhnaa", sum := "15857bcf4866848696d24fdde7c34415e562e47c226964ba21a2858962813229", func := "pintle/pintlelaw2.TracePlays", spec := "tracePlays", inPlace := ["sync/atomic.AddInt64", "sync/atomic.LoadInt64"], unfollowed := true, recurses := true, apart := false, narrowed := true }
def TracePlaysUptoSaid : Prop := tracePlaysUptoRow.holds Try.pinned (OpenSpec.upto tracePlaysSpec)

/-- 'pintlelaw2.TraceSames', WHERE WHAT IT READS IS OF BULK AT MOST 1048576: true; the input reads as it did. -/
def traceSamesUptoRow : OpenClaim := { program := "ytkpkdingeomhnaa", sum := "15857bcf4866848696d24fdde7c34415e562e47c226964ba21a2858962813229", func := "pintle/pintlelaw2.TraceSames", spec := "traceSames", inPlace := ["sync/atomic.AddInt64", "sync/atomic.LoadInt64"], unfollowed := true, recurses := true, apart := false, narrowed := true }
def TraceSamesUptoSaid : Prop := traceSamesUptoRow.holds Try.pinned (OpenSpec.upto traceSamesSpec)

/-- 'pintlelaw2.TraceTwo', WHERE WHAT IT READS IS OF BULK AT MOST 1048576: true; the input reads as it did. -/
def traceTwoUptoRow : OpenClaim := { program := "ytkpkdingeomhnaa", sum := "15857bcf4866848696d24fdde7c34415e562e47c226964ba21a2858962813229", func := "pintle/pintlelaw2.TraceTwo", spec := "traceTwo", inPlace := ["sync/atomic.AddInt64", "sync/atomic.LoadInt64"], unfollowed := true, recurses := true, apart := false, narrowed := true }
def TraceTwoUptoSaid : Prop := traceTwoUptoRow.holds Try.pinned (OpenSpec.upto traceTwoSpec)

/-- 'pintlelaw2.TraceRuns', WHERE WHAT IT READS IS OF BULK AT MOST 1048576: true; the input reads as it did. -/
def traceRunsUptoRow : OpenClaim := { program := "ytkpkdingeomhnaa", sum := "15857bcf4866848696d24fdde7c34415e562e47c226964ba21a2858962813229", func := "pintle/pintlelaw2.TraceRuns", spec := "traceRuns", inPlace := ["sync/atomic.AddInt64", "sync/atomic.LoadInt64"], unfollowed := true, recurses := true, apart := false, narrowed := true }
def TraceRunsUptoSaid : Prop := traceRunsUptoRow.holds Try.pinned (OpenSpec.upto traceRunsSpec)

/-- 'pintlelaw2.TraceSince', WHERE WHAT IT READS IS OF BULK AT MOST 1048576: true; the input reads as it did. -/
def traceSinceUptoRow : OpenClaim := { program := "ytkpkdingeomhnaa", sum := "15857bcf4866848696d24fdde7c34415e562e47c226964ba21a2858962813229", func := "pintle/pintlelaw2.TraceSince", spec := "traceSince", inPlace := ["sync/atomic.AddInt64", "sync/atomic.LoadInt64"], unfollowed := true, recurses := true, apart := false, narrowed := true }
def TraceSinceUptoSaid : Prop := traceSinceUptoRow.holds Try.pinned (OpenSpec.upto traceSinceSpec)

/-- 'pintlelaw2.TraceOwn', WHERE WHAT IT READS IS OF BULK AT MOST 1048576: true; the input reads as it did. -/
def traceOwnUptoRow : OpenClaim := { program := "ytkpkdingeomhnaa", sum := "15857bcf4866848696d24fdde7c34415e562e47c226964ba21a2858962813229", func := "pintle/pintlelaw2.TraceOwn", spec := "traceOwn", inPlace := ["sync/atomic.AddInt64", "sync/atomic.LoadInt64"], unfollowed := true, recurses := true, apart := false, narrowed := true }
def TraceOwnUptoSaid : Prop := traceOwnUptoRow.holds Try.pinned (OpenSpec.upto traceOwnSpec)

end Rows
end Go.Proofs.Ytkpkdingeomhnaa
