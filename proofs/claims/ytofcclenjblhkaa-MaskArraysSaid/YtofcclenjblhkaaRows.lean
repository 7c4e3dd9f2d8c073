/-
  No cell of these rows narrows 'for every input' (looked for: loops, veiled, ifaces, maps, wideKeys, modest, calm, conditions, laid).
  DERIVED. THE GIVEN ROWS OF THIS SEAT. 5 by the template 'for every input the law returns true; each argument reads behind the call as it read before'; 0 by the template 'total and deterministic' (their statements: YtofcclenjblhkaaTotals.lean).
  GIVEN WITH THE SEED: the statements are not yours to turn. If you find one false, say at which input.
  Laid BY PROGRAM, IN A SANDBOX (cutbox-rows.mjs): the forced cells as the released guide's own fill.sh prints them over the translation e7e420e260fd336e… (all of the seat's roots in one cut). By AI agents, Wed Nov 11 2026. No macro, syntax, notation, axiom, sorry.
-/
import Derived.Test.YtofcclenjblhkaaChecked
import GoSem.Claim
import GoSem.ClaimJoined
import GoSem.ClaimMapViews
import Derived.JoinedTies
import Derived.KernelRfl
namespace Go.Proofs.Ytofcclenjblhkaa
/- THE CELL 'sum', in the pinned program and in every row, IS THE sha256 OF THE DUMP (.gsa) THAT YtofcclenjblhkaaProg.lean LOADS. Nothing in Lean hashes anything: it is a label: what it is worth is what the hold of that sum in a sandbox is worth. -/
noncomputable def Try.pinned : Pinned := { name := "ytofcclenjblhkaa", sum := "e7e420e260fd336ed2000e501ac316ae57c115088dcc228cfea0edd197818815", checked := Try.checked }
namespace Rows
def none {H : Type} : Left H := { results := [], args := [] }

/-- 'pintlelaw1.MaskNumbers': WHATEVER THE INPUT: true; the input reads as it did. -/
def maskNumbersSpec : ChangeSpec := { name := "maskNumbers", fn := fun _ => fun
  | [d1, d2, d3] => { results := [.lit (.bool true)], args := [d1, d2, d3] }
  | _ => none }
def maskNumbersRow : OpenClaim := { program := "ytofcclenjblhkaa", sum := "e7e420e260fd336ed2000e501ac316ae57c115088dcc228cfea0edd197818815", func := "pintle/pintlelaw1.MaskNumbers", spec := "maskNumbers", apart := false }
def MaskNumbersSaid : Prop := maskNumbersRow.holds Try.pinned (OpenSpec.ofChange maskNumbersSpec)

/-- ITS FALSE NEIGHBOUR: 'it returns false'. Refute it at one input. -/
def maskNumbersWrong : ChangeSpec := { name := "maskNumbers", fn := fun _ => fun
  | [d1, d2, d3] => { results := [.lit (.bool false)], args := [d1, d2, d3] }
  | _ => none }
def MaskNumbersWrongFalsely : Prop := maskNumbersRow.holds Try.pinned (OpenSpec.ofChange maskNumbersWrong)

/-- 'pintlelaw1.MaskArrays': WHATEVER THE INPUT: true; the input reads as it did. -/
def maskArraysSpec : ChangeSpec := { name := "maskArrays", fn := fun _ => fun
  | [d1, d2, d3, d4, d5] => { results := [.lit (.bool true)], args := [d1, d2, d3, d4, d5] }
  | _ => none }
def maskArraysRow : OpenClaim := { program := "ytofcclenjblhkaa", sum := "e7e420e260fd336ed2000e501ac316ae57c115088dcc228cfea0edd197818815", func := "pintle/pintlelaw1.MaskArrays", spec := "maskArrays", apart := false }
def MaskArraysSaid : Prop := maskArraysRow.holds Try.pinned (OpenSpec.ofChange maskArraysSpec)

/-- ITS FALSE NEIGHBOUR: 'it returns false'. Refute it at one input. -/
def maskArraysWrong : ChangeSpec := { name := "maskArrays", fn := fun _ => fun
  | [d1, d2, d3, d4, d5] => { results := [.lit (.bool false)], args := [d1, d2, d3, d4, d5] }
  | _ => none }
def MaskArraysWrongFalsely : Prop := maskArraysRow.holds Try.pinned (OpenSpec.ofChange maskArraysWrong)

/-- 'pintlelaw1.MaskSwaps': WHATEVER THE INPUT: true; the input reads as it did. -/
def maskSwapsSpec : ChangeSpec := { name := "maskSwaps", fn := fun _ => fun
  | [d1, d2, d3] => { results := [.lit (.bool true)], args := [d1, d2, d3] }
  | _ => none }
def maskSwapsRow : OpenClaim := { program := "ytofcclenjblhkaa", sum := "e7e420e260fd336ed2000e501ac316ae57c115088dcc228cfea0edd197818815", func := "pintle/pintlelaw1.MaskSwaps", spec := "maskSwaps", apart := false }
def MaskSwapsSaid : Prop := maskSwapsRow.holds Try.pinned (OpenSpec.ofChange maskSwapsSpec)

/-- ITS FALSE NEIGHBOUR: 'it returns false'. Refute it at one input. -/
def maskSwapsWrong : ChangeSpec := { name := "maskSwaps", fn := fun _ => fun
  | [d1, d2, d3] => { results := [.lit (.bool false)], args := [d1, d2, d3] }
  | _ => none }
def MaskSwapsWrongFalsely : Prop := maskSwapsRow.holds Try.pinned (OpenSpec.ofChange maskSwapsWrong)

/-- 'pintlelaw1.MaskWipes': WHATEVER THE INPUT: true; the input reads as it did. -/
def maskWipesSpec : ChangeSpec := { name := "maskWipes", fn := fun _ => fun
  | [d1, d2, d3] => { results := [.lit (.bool true)], args := [d1, d2, d3] }
  | _ => none }
def maskWipesRow : OpenClaim := { program := "ytofcclenjblhkaa", sum := "e7e420e260fd336ed2000e501ac316ae57c115088dcc228cfea0edd197818815", func := "pintle/pintlelaw1.MaskWipes", spec := "maskWipes", apart := false }
def MaskWipesSaid : Prop := maskWipesRow.holds Try.pinned (OpenSpec.ofChange maskWipesSpec)

/-- ITS FALSE NEIGHBOUR: 'it returns false'. Refute it at one input. -/
def maskWipesWrong : ChangeSpec := { name := "maskWipes", fn := fun _ => fun
  | [d1, d2, d3] => { results := [.lit (.bool false)], args := [d1, d2, d3] }
  | _ => none }
def MaskWipesWrongFalsely : Prop := maskWipesRow.holds Try.pinned (OpenSpec.ofChange maskWipesWrong)

/-- 'pintlelaw1.MaskOrders': WHATEVER THE INPUT: true; the input reads as it did. -/
def maskOrdersSpec : ChangeSpec := { name := "maskOrders", fn := fun _ => fun
  | [d1, d2, d3, d4, d5] => { results := [.lit (.bool true)], args := [d1, d2, d3, d4, d5] }
  | _ => none }
def maskOrdersRow : OpenClaim := { program := "ytofcclenjblhkaa", sum := "e7e420e260fd336ed2000e501ac316ae57c115088dcc228cfea0edd197818815", func := "pintle/pintlelaw1.MaskOrders", spec := "maskOrders", apart := false }
def MaskOrdersSaid : Prop := maskOrdersRow.holds Try.pinned (OpenSpec.ofChange maskOrdersSpec)

/-- ITS FALSE NEIGHBOUR: 'it returns false'. Refute it at one input. -/
def maskOrdersWrong : ChangeSpec := { name := "maskOrders", fn := fun _ => fun
  | [d1, d2, d3, d4, d5] => { results := [.lit (.bool false)], args := [d1, d2, d3, d4, d5] }
  | _ => none }
def MaskOrdersWrongFalsely : Prop := maskOrdersRow.holds Try.pinned (OpenSpec.ofChange maskOrdersWrong)

/- THE SECOND FORM. 'bulk': how many values and letters a reading holds, each counted each time it is reached (what is shared counts as often as it is met; a slice's spare places count too). A statement '..UptoSaid' is the law's where the arguments, and the package variables that the reading takes, are together of bulk at most 1048576: NARROWER than '..Said'. Prove '..Said' where nothing that the law and all that it calls make is longer than what came in: it says more and counts as full. Else prove '..UptoSaid'. A law counts once. -/
mutual
def uptoBulk {H : Type} : DataW H → Nat
  | .lit (.string bytes) => bytes.length + 1
  | .lit _ => 1
  | .nil => 1
  | .ptr d => uptoBulk d + 1
  | .slice elems spare => uptoBulkAll elems + uptoBulkAll spare + 1
  | .agg parts => uptoBulkAll parts + 1
  | .iface _ d => uptoBulk d + 1
  | .map entries => uptoBulkEntries entries + 1
  | .held _ => 1
def uptoBulkAll {H : Type} : List (DataW H) → Nat
  | [] => 0
  | d :: r => uptoBulk d + uptoBulkAll r
def uptoBulkEntries {H : Type} : List (Lit × DataW H) → Nat
  | [] => 0
  | x :: r => uptoBulkEntry x + uptoBulkEntries r
def uptoBulkEntry {H : Type} : Lit × DataW H → Nat
  | (.string bytes, d) => bytes.length + uptoBulk d + 1
  | (_, d) => uptoBulk d + 1
 end
def uptoSmall : (H : Type) → List (DataW H) → Bool := fun _ ds => decide (uptoBulkAll ds ≤ 1048576)
def OpenSpec.upto (s : _root_.Go.ChangeSpec) : _root_.Go.OpenSpec := { _root_.Go.OpenSpec.ofChange s with cond := some uptoSmall }

/-- 'pintlelaw1.MaskNumbers', WHERE WHAT IT READS IS OF BULK AT MOST 1048576: true; the input reads as it did. -/
def maskNumbersUptoRow : OpenClaim := { program := "ytofcclenjblhkaa", sum := "e7e420e260fd336ed2000e501ac316ae57c115088dcc228cfea0edd197818815", func := "pintle/pintlelaw1.MaskNumbers", spec := "maskNumbers", apart := false, narrowed := true }
def MaskNumbersUptoSaid : Prop := maskNumbersUptoRow.holds Try.pinned (OpenSpec.upto maskNumbersSpec)

/-- 'pintlelaw1.MaskArrays', WHERE WHAT IT READS IS OF BULK AT MOST 1048576: true; the input reads as it did. -/
def maskArraysUptoRow : OpenClaim := { program := "ytofcclenjblhkaa", sum := "e7e420e260fd336ed2000e501ac316ae57c115088dcc228cfea0edd197818815", func := "pintle/pintlelaw1.MaskArrays", spec := "maskArrays", apart := false, narrowed := true }
def MaskArraysUptoSaid : Prop := maskArraysUptoRow.holds Try.pinned (OpenSpec.upto maskArraysSpec)

/-- 'pintlelaw1.MaskSwaps', WHERE WHAT IT READS IS OF BULK AT MOST 1048576: true; the input reads as it did. -/
def maskSwapsUptoRow : OpenClaim := { program := "ytofcclenjblhkaa", sum := "e7e420e260fd336ed2000e501ac316ae57c115088dcc228cfea0edd197818815", func := "pintle/pintlelaw1.MaskSwaps", spec := "maskSwaps", apart := false, narrowed := true }
def MaskSwapsUptoSaid : Prop := maskSwapsUptoRow.holds Try.pinned (OpenSpec.upto maskSwapsSpec)

/-- 'pintlelaw1.MaskWipes', WHERE WHAT IT READS IS OF BULK AT MOST 1048576: true; the input reads as it did. -/
def maskWipesUptoRow : OpenClaim := { program := "ytofcclenjblhkaa", sum := "e7e420e260fd336ed2000e501ac316ae57c115088dcc228cfea0edd197818815", func := "pintle/pintlelaw1.MaskWipes", spec := "maskWipes", apart := false, narrowed := true }
def MaskWipesUptoSaid : Prop := maskWipesUptoRow.holds Try.pinned (OpenSpec.upto maskWipesSpec)

/-- 'pintlelaw1.MaskOrders', WHERE WHAT IT READS IS OF BULK AT MOST 1048576: true; the input reads as it did. -/
def maskOrdersUptoRow : OpenClaim := { program := "ytofcclenjblhkaa", sum := "e7e420e260fd336ed2000e501ac316ae57c115088dcc228cfea0edd197818815", func := "pintle/pintlelaw1.MaskOrders", spec := "maskOrders", apart := false, narrowed := true }
def MaskOrdersUptoSaid : Prop := maskOrdersUptoRow.holds Try.pinned (OpenSpec.upto maskOrdersSpec)

end Rows
end Go.Proofs.Ytofcclenjblhkaa
