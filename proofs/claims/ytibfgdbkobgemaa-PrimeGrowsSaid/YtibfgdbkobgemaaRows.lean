/-
  No cell of these rows narrows 'for every input' (looked for: loops, veiled, ifaces, maps, wideKeys, modest, calm, conditions, laid).
  DERIVED. THE GIVEN ROWS OF THIS SEAT. 8 by the template 'for every input the law returns true; each argument reads behind the call as it read before'; 0 by the template 'total and deterministic' (their statements: YtibfgdbkobgemaaTotals.lean).
  GIVEN WITH THE SEED: the statements are not yours to turn. If you find one false, say at which input.
  Laid BY PROGRAM, IN A SANDBOX (cutbox-rows.mjs): the forced cells as the released guide's own fill.sh prints them over the translation 232f9d7705067e14… (all of the seat's roots in one cut). By AI agents, Wed Nov 11 2026. No macro, syntax, notation, axiom, sorry.
-/
import Derived.Test.YtibfgdbkobgemaaChecked
import GoSem.Claim
import GoSem.ClaimJoined
import GoSem.ClaimMapViews
import Derived.JoinedTies
import Derived.KernelRfl
namespace Go.Proofs.Ytibfgdbkobgemaa
/- THE CELL 'sum', in the pinned program and in every row, IS THE sha256 OF THE DUMP (.gsa) THAT YtibfgdbkobgemaaProg.lean LOADS. Nothing in Lean hashes anything: it is a label: what it is worth is what the hold of that sum in a sandbox is worth. -/
noncomputable def Try.pinned : Pinned := { name := "ytibfgdbkobgemaa", sum := "232f9d7705067e14d0c4ee5db9875bba23652604b43dea384b9ebbbb2d5d5d75", checked := Try.checked }
namespace Rows
def none {H : Type} : Left H := { results := [], args := [] }

/-- 'pintlelaw4.PrimeLaws': WHATEVER THE INPUT: true; the input reads as it did. -/
def primeLawsSpec : ChangeSpec := { name := "primeLaws", fn := fun _ => fun
  | [d1, d2, d3] => { results := [.lit (.bool true)], args := [d1, d2, d3] }
  | _ => none }
def primeLawsRow : OpenClaim := { program := "ytibfgdbkobgemaa", sum := "232f9d7705067e14d0c4ee5db9875bba23652604b43dea384b9ebbbb2d5d5d75", func := "pintle/pintlelaw4.PrimeLaws", spec := "primeLaws", inPlace := ["sync/atomic.AddInt64", "math/bits.Add64", "sync/atomic.LoadInt64"], apart := false }
def PrimeLawsSaid : Prop := primeLawsRow.holds Try.pinned (OpenSpec.ofChange primeLawsSpec)

/-- ITS FALSE NEIGHBOUR: 'it returns false'. Refute it at one input. -/
def primeLawsWrong : ChangeSpec := { name := "primeLaws", fn := fun _ => fun
  | [d1, d2, d3] => { results := [.lit (.bool false)], args := [d1, d2, d3] }
  | _ => none }
def PrimeLawsWrongFalsely : Prop := primeLawsRow.holds Try.pinned (OpenSpec.ofChange primeLawsWrong)

/-- 'pintlelaw4.PrimeBytes': WHATEVER THE INPUT: true; the input reads as it did. -/
def primeBytesSpec : ChangeSpec := { name := "primeBytes", fn := fun _ => fun
  | [d] => { results := [.lit (.bool true)], args := [d] }
  | _ => none }
def primeBytesRow : OpenClaim := { program := "ytibfgdbkobgemaa", sum := "232f9d7705067e14d0c4ee5db9875bba23652604b43dea384b9ebbbb2d5d5d75", func := "pintle/pintlelaw4.PrimeBytes", spec := "primeBytes", inPlace := ["sync/atomic.AddInt64", "math/bits.Add64", "sync/atomic.LoadInt64"], apart := false }
def PrimeBytesSaid : Prop := primeBytesRow.holds Try.pinned (OpenSpec.ofChange primeBytesSpec)

/-- ITS FALSE NEIGHBOUR: 'it returns false'. Refute it at one input. -/
def primeBytesWrong : ChangeSpec := { name := "primeBytes", fn := fun _ => fun
  | [d] => { results := [.lit (.bool false)], args := [d] }
  | _ => none }
def PrimeBytesWrongFalsely : Prop := primeBytesRow.holds Try.pinned (OpenSpec.ofChange primeBytesWrong)

/-- 'pintlelaw4.PrimeFolds': WHATEVER THE INPUT: true; the input reads as it did. -/
def primeFoldsSpec : ChangeSpec := { name := "primeFolds", fn := fun _ => fun
  | [d] => { results := [.lit (.bool true)], args := [d] }
  | _ => none }
def primeFoldsRow : OpenClaim := { program := "ytibfgdbkobgemaa", sum := "232f9d7705067e14d0c4ee5db9875bba23652604b43dea384b9ebbbb2d5d5d75", func := "pintle/pintlelaw4.PrimeFolds", spec := "primeFolds", inPlace := ["sync/atomic.AddInt64", "math/bits.Add64", "sync/atomic.LoadInt64"], apart := false }
def PrimeFoldsSaid : Prop := primeFoldsRow.holds Try.pinned (OpenSpec.ofChange primeFoldsSpec)

/-- ITS FALSE NEIGHBOUR: 'it returns false'. Refute it at one input. -/
def primeFoldsWrong : ChangeSpec := { name := "primeFolds", fn := fun _ => fun
  | [d] => { results := [.lit (.bool false)], args := [d] }
  | _ => none }
def PrimeFoldsWrongFalsely : Prop := primeFoldsRow.holds Try.pinned (OpenSpec.ofChange primeFoldsWrong)

/-- 'pintlelaw4.PrimeSums': WHATEVER THE INPUT: true; the input reads as it did. -/
def primeSumsSpec : ChangeSpec := { name := "primeSums", fn := fun _ => fun
  | [d1, d2] => { results := [.lit (.bool true)], args := [d1, d2] }
  | _ => none }
def primeSumsRow : OpenClaim := { program := "ytibfgdbkobgemaa", sum := "232f9d7705067e14d0c4ee5db9875bba23652604b43dea384b9ebbbb2d5d5d75", func := "pintle/pintlelaw4.PrimeSums", spec := "primeSums", inPlace := ["math/bits.Add64", "sync/atomic.AddInt64", "sync/atomic.LoadInt64"], apart := false }
def PrimeSumsSaid : Prop := primeSumsRow.holds Try.pinned (OpenSpec.ofChange primeSumsSpec)

/-- ITS FALSE NEIGHBOUR: 'it returns false'. Refute it at one input. -/
def primeSumsWrong : ChangeSpec := { name := "primeSums", fn := fun _ => fun
  | [d1, d2] => { results := [.lit (.bool false)], args := [d1, d2] }
  | _ => none }
def PrimeSumsWrongFalsely : Prop := primeSumsRow.holds Try.pinned (OpenSpec.ofChange primeSumsWrong)

/-- 'pintlelaw4.PrimeClamps': WHATEVER THE INPUT: true; the input reads as it did. -/
def primeClampsSpec : ChangeSpec := { name := "primeClamps", fn := fun _ => fun
  | [d] => { results := [.lit (.bool true)], args := [d] }
  | _ => none }
def primeClampsRow : OpenClaim := { program := "ytibfgdbkobgemaa", sum := "232f9d7705067e14d0c4ee5db9875bba23652604b43dea384b9ebbbb2d5d5d75", func := "pintle/pintlelaw4.PrimeClamps", spec := "primeClamps", inPlace := ["sync/atomic.AddInt64", "math/bits.Add64", "sync/atomic.LoadInt64"], apart := false }
def PrimeClampsSaid : Prop := primeClampsRow.holds Try.pinned (OpenSpec.ofChange primeClampsSpec)

/-- ITS FALSE NEIGHBOUR: 'it returns false'. Refute it at one input. -/
def primeClampsWrong : ChangeSpec := { name := "primeClamps", fn := fun _ => fun
  | [d] => { results := [.lit (.bool false)], args := [d] }
  | _ => none }
def PrimeClampsWrongFalsely : Prop := primeClampsRow.holds Try.pinned (OpenSpec.ofChange primeClampsWrong)

/-- 'pintlelaw4.PrimePlays': WHATEVER THE INPUT: true; the input reads as it did. -/
def primePlaysSpec : ChangeSpec := { name := "primePlays", fn := fun _ => fun
  | [d] => { results := [.lit (.bool true)], args := [d] }
  | _ => none }
def primePlaysRow : OpenClaim := { program := "ytibfgdbkobgemaa", sum := "232f9d7705067e14d0c4ee5db9875bba23652604b43dea384b9ebbbb2d5d5d75", func := "pintle/pintlelaw4.PrimePlays", spec := "primePlays", inPlace := ["sync/atomic.AddInt64", "math/bits.Add64", "sync/atomic.LoadInt64"], unfollowed := true, recurses := true, apart := false }
def PrimePlaysSaid : Prop := primePlaysRow.holds Try.pinned (OpenSpec.ofChange primePlaysSpec)

/-- ITS FALSE NEIGHBOUR: 'it returns false'. Refute it at one input. -/
def primePlaysWrong : ChangeSpec := { name := "primePlays", fn := fun _ => fun
  | [d] => { results := [.lit (.bool false)], args := [d] }
  | _ => none }
def PrimePlaysWrongFalsely : Prop := primePlaysRow.holds Try.pinned (OpenSpec.ofChange primePlaysWrong)

/-- 'pintlelaw4.PrimeGrows': WHATEVER THE INPUT: true; the input reads as it did. -/
def primeGrowsSpec : ChangeSpec := { name := "primeGrows", fn := fun _ => fun
  | [d1, d2, d3, d4] => { results := [.lit (.bool true)], args := [d1, d2, d3, d4] }
  | _ => none }
def primeGrowsRow : OpenClaim := { program := "ytibfgdbkobgemaa", sum := "232f9d7705067e14d0c4ee5db9875bba23652604b43dea384b9ebbbb2d5d5d75", func := "pintle/pintlelaw4.PrimeGrows", spec := "primeGrows", inPlace := ["sync/atomic.AddInt64", "math/bits.Add64", "sync/atomic.LoadInt64"], unfollowed := true, recurses := true, apart := false }
def PrimeGrowsSaid : Prop := primeGrowsRow.holds Try.pinned (OpenSpec.ofChange primeGrowsSpec)

/-- ITS FALSE NEIGHBOUR: 'it returns false'. Refute it at one input. -/
def primeGrowsWrong : ChangeSpec := { name := "primeGrows", fn := fun _ => fun
  | [d1, d2, d3, d4] => { results := [.lit (.bool false)], args := [d1, d2, d3, d4] }
  | _ => none }
def PrimeGrowsWrongFalsely : Prop := primeGrowsRow.holds Try.pinned (OpenSpec.ofChange primeGrowsWrong)

/-- 'pintlelaw4.PrimeQuiet': WHATEVER THE INPUT: true; the input reads as it did. -/
def primeQuietSpec : ChangeSpec := { name := "primeQuiet", fn := fun _ => fun
  | [d] => { results := [.lit (.bool true)], args := [d] }
  | _ => none }
def primeQuietRow : OpenClaim := { program := "ytibfgdbkobgemaa", sum := "232f9d7705067e14d0c4ee5db9875bba23652604b43dea384b9ebbbb2d5d5d75", func := "pintle/pintlelaw4.PrimeQuiet", spec := "primeQuiet", inPlace := ["sync/atomic.AddInt64", "math/bits.Add64", "sync/atomic.LoadInt64"], unfollowed := true, recurses := true, apart := false }
def PrimeQuietSaid : Prop := primeQuietRow.holds Try.pinned (OpenSpec.ofChange primeQuietSpec)

/-- ITS FALSE NEIGHBOUR: 'it returns false'. Refute it at one input. -/
def primeQuietWrong : ChangeSpec := { name := "primeQuiet", fn := fun _ => fun
  | [d] => { results := [.lit (.bool false)], args := [d] }
  | _ => none }
def PrimeQuietWrongFalsely : Prop := primeQuietRow.holds Try.pinned (OpenSpec.ofChange primeQuietWrong)

/- THE SECOND FORM. 'bulk': how many values and letters a reading holds, each counted each time it is reached (what is shared counts as often as it is met; a slice's spare places count too). A statement '..UptoSaid' is the law's where the arguments, and the package variables that the reading takes, are together of bulk at most 1048576: NARROWER than '..Said'. Prove '..Said' where nothing that the law and all that it calls make is longer than what came in: it says more and counts as full. Else prove '..UptoSaid'. A law counts once. -/
mutual
def uptoBulk {H : Type} : DataW H → Nat
  | .lit (.string bytes) => bytes.length + 1
  | .lit _ => 1
  | .nil => 1
  | .ptr d => uptoBulk d + 1
  | .slice elems spare => uptoBulkAll elems + uptoBulkAll spare + 1
  | .agg parts => uptoBulkAll parts + 1
  | .iface _ d => uptoBulk d + 1
  | .map entries => uptoBulkEntries entries + 1
  | .held _ => 1
def uptoBulkAll {H : Type} : List (DataW H) → Nat
  | [] => 0
  | d :: r => uptoBulk d + uptoBulkAll r
def uptoBulkEntries {H : Type} : List (Lit × DataW H) → Nat
  | [] => 0
  | x :: r => uptoBulkEntry x + uptoBulkEntries r
def uptoBulkEntry {H : Type} : Lit × DataW H → Nat
  | (.string bytes, d) => bytes.length + uptoBulk d + 1
  | (_, d) => uptoBulk d + 1
 end
def uptoSmall : (H : Type) → List (DataW H) → Bool := fun _ ds => decide (uptoBulkAll ds ≤ 1048576)
def OpenSpec.upto (s : _root_.Go.ChangeSpec) : _root_.Go.OpenSpec := { _root_.Go.OpenSpec.ofChange s with cond := some uptoSmall }

/-- 'pintlelaw4.PrimeLaws', WHERE WHAT IT READS IS OF BULK AT MOST 1048576: true; the input reads as it did. -/
def primeLawsUptoRow : OpenClaim := { program := "ytibfgdbkobgemaa", sum := "232f9d7705067e14d0c4ee5db9875bba23652604b43dea384b9ebbbb2d5d5d75", func := "pintle/pintlelaw4.PrimeLaws", spec := "primeLaws", inPlace := ["sync/atomic.AddInt64", "math/bits.Add64", "sync/atomic.LoadInt64"], apart := false, narrowed := true }
def PrimeLawsUptoSaid : Prop := primeLawsUptoRow.holds Try.pinned (OpenSpec.upto primeLawsSpec)

/-- 'pintlelaw4.PrimeBytes', WHERE WHAT IT READS IS OF BULK AT MOST 1048576: true; the input reads as it did. -/
def primeBytesUptoRow : OpenClaim := { program := "ytibfgdbkobgemaa", sum := "232f9d7705067e14d0c4ee5db9875bba23652604b43dea384b9ebbbb2d5d5d75", func := "pintle/pintlelaw4.PrimeBytes", spec := "primeBytes", inPlace := ["sync/atomic.AddInt64", "math/bits.Add64", "sync/atomic.LoadInt64"], apart := false, narrowed := true }
def PrimeBytesUptoSaid : Prop := primeBytesUptoRow.holds Try.pinned (OpenSpec.upto primeBytesSpec)

/-- 'pintlelaw4.PrimeFolds', WHERE WHAT IT READS IS OF BULK AT MOST 1048576: true; the input reads as it did. -/
def primeFoldsUptoRow : OpenClaim := { program := "ytibfgdbkobgemaa", sum := "232f9d7705067e14d0c4ee5db9875bba23652604b43dea384b9ebbbb2d5d5d75", func := "pintle/pintlelaw4.PrimeFolds", spec := "primeFolds", inPlace := ["sync/atomic.AddInt64", "math/bits.Add64", "sync/atomic.LoadInt64"], apart := false, narrowed := true }
def PrimeFoldsUptoSaid : Prop := primeFoldsUptoRow.holds Try.pinned (OpenSpec.upto primeFoldsSpec)

/-- 'pintlelaw4.PrimeSums', WHERE WHAT IT READS IS OF BULK AT MOST 1048576: true; the input reads as it did. -/
def primeSumsUptoRow : OpenClaim := { program := "ytibfgdbkobgemaa", sum := "232f9d7705067e14d0c4ee5db9875bba23652604b43dea384b9ebbbb2d5d5d75", func := "pintle/pintlelaw4.PrimeSums", spec := "primeSums", inPlace := ["math/bits.Add64", "sync/atomic.AddInt64", "sync/atomic.LoadInt64"], apart := false, narrowed := true }
def PrimeSumsUptoSaid : Prop := primeSumsUptoRow.holds Try.pinned (OpenSpec.upto primeSumsSpec)

/-- 'pintlelaw4.PrimeClamps', WHERE WHAT IT READS IS OF BULK AT MOST 1048576: true; the input reads as it did. -/
def primeClampsUptoRow : OpenClaim := { program := "ytibfgdbkobgemaa", sum := "232f9d7705067e14d0c4ee5db9875bba23652604b43dea384b9ebbbb2d5d5d75", func := "pintle/pintlelaw4.PrimeClamps", spec := "primeClamps", inPlace := ["sync/atomic.AddInt64", "math/bits.Add64", "sync/atomic.LoadInt64"], apart := false, narrowed := true }
def PrimeClampsUptoSaid : Prop := primeClampsUptoRow.holds Try.pinned (OpenSpec.upto primeClampsSpec)

/-- 'pintlelaw4.PrimePlays', WHERE WHAT IT READS IS OF BULK AT MOST 1048576: true; the input reads as it did. -/
def primePlaysUptoRow : OpenClaim := { program := "ytibfgdbkobgemaa", sum := "232f9d7705067e14d0c4ee5db9875bba23652604b43dea384b9ebbbb2d5d5d75", func := "pintle/pintlelaw4.PrimePlays", spec := "primePlays", inPlace := ["sync/atomic.AddInt64", "math/bits.Add64", "sync/atomic.LoadInt64"], unfollowed := true, recurses := true, apart := false, narrowed := true }
def PrimePlaysUptoSaid : Prop := primePlaysUptoRow.holds Try.pinned (OpenSpec.upto primePlaysSpec)

/-- 'pintlelaw4.PrimeGrows', WHERE WHAT IT READS IS OF BULK AT MOST 1048576: true; the input reads as it did. -/
def primeGrowsUptoRow : OpenClaim := { program := "ytibfgdbkobgemaa", sum := "232f9d7705067e14d0c4ee5db9875bba23652604b43dea384b9ebbbb2d5d5d75", func := "pintle/pintlelaw4.PrimeGrows", spec := "primeGrows", inPlace := ["sync/atomic.AddInt64", "math/bits.Add64", "sync/atomic.LoadInt64"], unfollowed := true, recurses := true, apart := false, narrowed := true }
def PrimeGrowsUptoSaid : Prop := primeGrowsUptoRow.holds Try.pinned (OpenSpec.upto primeGrowsSpec)

/-- 'pintlelaw4.PrimeQuiet', WHERE WHAT IT READS IS OF BULK AT MOST 1048576: true; the input reads as it did. -/
def primeQuietUptoRow : OpenClaim := { program := "ytibfgdbkobgemaa", sum := "232f9d7705067e14d0c4ee5db9875bba23652604b43dea384b9ebbbb2d5d5d75", func := "pintle/pintlelaw4.PrimeQuiet", spec := "primeQuiet", inPlace := ["sync/atomic.AddInt64", "math/bits.Add64", "sync/atomic.LoadInt64"], unfollowed := true, recurses := true, apart := false, narrowed := true }
def PrimeQuietUptoSaid : Prop := primeQuietUptoRow.holds Try.pinned (OpenSpec.upto primeQuietSpec)

end Rows
end Go.Proofs.Ytibfgdbkobgemaa
