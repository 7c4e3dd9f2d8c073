/-
  NARROWER THAN 'FOR EVERY INPUT', by the rows' own cells (each row's printed sentence says how): TopWorth: laid.
  DERIVED. THE GIVEN ROWS OF THIS SEAT. 1 by the template 'for every input the law returns true; each argument reads behind the call as it read before'; 0 by the template 'total and deterministic' (their statements: YtdndpfaapnecjaaDoorTotals.lean).
  GIVEN WITH THE SEED: the statements are not yours to turn. If you find one false, say at which input.
  Laid BY PROGRAM, IN A SANDBOX (cutbox-rows.mjs): the forced cells as the released guide's own fill.sh prints them over the translation cc583f758753a2cd… (all of the seat's roots in one cut). By AI agents, Wed Nov 11 2026. No macro, syntax, notation, axiom, sorry.
-/
import Derived.Test.YtdndpfaapnecjaaDoorChecked
import GoSem.Claim
import GoSem.ClaimJoined
import GoSem.ClaimMapViews
import Derived.JoinedTies
import Derived.KernelRfl
namespace Go.Proofs.YtdndpfaapnecjaaDoor
/- THE CELL 'sum', in the pinned program and in every row, IS THE sha256 OF THE DUMP (.gsa) THAT YtdndpfaapnecjaaDoorProg.lean LOADS. Nothing in Lean hashes anything: it is a label: what it is worth is what the hold of that sum in a sandbox is worth. -/
noncomputable def Tryd.pinned : Pinned := { name := "ytdndpfaapnecjaadoor", sum := "cc583f758753a2cd3f1e1938967f2a1b570de255297e6a61562eeec9b327245e", checked := Tryd.checked }
namespace Rows
def none {H : Type} : Left H := { results := [], args := [] }

/- WHAT THE LISTED PACKAGE-LEVEL VARIABLES READ AS WHEN THE CALL BEGINS. Each datum BY PROGRAM (the guide's laid-datum.mjs) off the statement by which the dump's own 'gosem.cut.vars' lays the variable. In a bare row this is a premise. The card (YtdndpfaapnecjaaDoorCards.lean) ties it to the program's text. -/
def laid_pintle_api_ErrArg {H : Type} : DataW H := .iface "*errors.errorString" (.ptr (.agg [.lit (.string [112, 105, 110, 116, 108, 101, 58, 32, 97, 114, 103, 117, 109, 101, 110, 116])]))
def laid_pintle_api_ErrInvalid {H : Type} : DataW H := .iface "*errors.errorString" (.ptr (.agg [.lit (.string [112, 105, 110, 116, 108, 101, 58, 32, 112, 97, 116, 116, 101, 114, 110, 32, 105, 110, 118, 97, 108, 105, 100])]))
def laid_pintle_api_ErrTwice {H : Type} : DataW H := .iface "*errors.errorString" (.ptr (.agg [.lit (.string [112, 105, 110, 116, 108, 101, 58, 32, 116, 119, 105, 99, 101])]))
def laid_pintle_api_ErrLacks {H : Type} : DataW H := .iface "*errors.errorString" (.ptr (.agg [.lit (.string [112, 105, 110, 116, 108, 101, 58, 32, 108, 97, 99, 107, 115])]))
def laid_pintle_api_ErrUnsafe {H : Type} : DataW H := .iface "*errors.errorString" (.ptr (.agg [.lit (.string [112, 105, 110, 116, 108, 101, 58, 32, 117, 110, 115, 97, 102, 101])]))

/-- 'pintletop.TopWorth': WHATEVER THE INPUT: true; the input reads as it did. -/
def topWorthSpec : ChangeSpec := { name := "topWorth", fn := fun _ => fun
  | [d1, d2] => { results := [.lit (.bool true)], args := [d1, d2] }
  | _ => none }
def topWorthRow : OpenClaim := { program := "ytdndpfaapnecjaadoor", sum := "cc583f758753a2cd3f1e1938967f2a1b570de255297e6a61562eeec9b327245e", func := "pintle/pintletop.TopWorth", spec := "topWorth", unfollowed := true, recurses := true, named := ["pintle/api.ErrArg", "pintle/api.ErrInvalid", "pintle/api.ErrUnsafe", "pintle/api.ErrTwice", "pintle/api.ErrLacks"], apart := false, laid := [("pintle/api.ErrArg", laid_pintle_api_ErrArg), ("pintle/api.ErrInvalid", laid_pintle_api_ErrInvalid), ("pintle/api.ErrTwice", laid_pintle_api_ErrTwice), ("pintle/api.ErrLacks", laid_pintle_api_ErrLacks), ("pintle/api.ErrUnsafe", laid_pintle_api_ErrUnsafe)] }
def TopWorthSaid : Prop := topWorthRow.holds Tryd.pinned (OpenSpec.ofChange topWorthSpec)

/-- ITS FALSE NEIGHBOUR: 'it returns false'. Refute it at one input. -/
def topWorthWrong : ChangeSpec := { name := "topWorth", fn := fun _ => fun
  | [d1, d2] => { results := [.lit (.bool false)], args := [d1, d2] }
  | _ => none }
def TopWorthWrongFalsely : Prop := topWorthRow.holds Tryd.pinned (OpenSpec.ofChange topWorthWrong)

/- THE SECOND FORM. 'bulk': how many values and letters a reading holds, each counted each time it is reached (what is shared counts as often as it is met; a slice's spare places count too). A statement '..UptoSaid' is the law's where the arguments, and the package variables that the reading takes, are together of bulk at most 1048576: NARROWER than '..Said'. Prove '..Said' where nothing that the law and all that it calls make is longer than what came in: it says more and counts as full. Else prove '..UptoSaid'. A law counts once. -/
mutual
def uptoBulk {H : Type} : DataW H → Nat
  | .lit (.string bytes) => bytes.length + 1
  | .lit _ => 1
  | .nil => 1
  | .ptr d => uptoBulk d + 1
  | .slice elems spare => uptoBulkAll elems + uptoBulkAll spare + 1
  | .agg parts => uptoBulkAll parts + 1
  | .iface _ d => uptoBulk d + 1
  | .map entries => uptoBulkEntries entries + 1
  | .held _ => 1
def uptoBulkAll {H : Type} : List (DataW H) → Nat
  | [] => 0
  | d :: r => uptoBulk d + uptoBulkAll r
def uptoBulkEntries {H : Type} : List (Lit × DataW H) → Nat
  | [] => 0
  | x :: r => uptoBulkEntry x + uptoBulkEntries r
def uptoBulkEntry {H : Type} : Lit × DataW H → Nat
  | (.string bytes, d) => bytes.length + uptoBulk d + 1
  | (_, d) => uptoBulk d + 1
 end
def uptoSmall : (H : Type) → List (DataW H) → Bool := fun _ ds => decide (uptoBulkAll ds ≤ 1048576)
def OpenSpec.upto (s : _root_.Go.ChangeSpec) : _root_.Go.OpenSpec := { _root_.Go.OpenSpec.ofChange s with cond := some uptoSmall }

/-- 'pintletop.TopWorth', WHERE WHAT IT READS IS OF BULK AT MOST 1048576: true; the input reads as it did. -/
def topWorthUptoRow : OpenClaim := { program := "ytdndpfaapnecjaadoor", sum := "cc583f758753a2cd3f1e1938967f2a1b570de255297e6a61562eeec9b327245e", func := "pintle/pintletop.TopWorth", spec := "topWorth", unfollowed := true, recurses := true, named := ["pintle/api.ErrArg", "pintle/api.ErrInvalid", "pintle/api.ErrUnsafe", "pintle/api.ErrTwice", "pintle/api.ErrLacks"], apart := false, laid := [("pintle/api.ErrArg", laid_pintle_api_ErrArg), ("pintle/api.ErrInvalid", laid_pintle_api_ErrInvalid), ("pintle/api.ErrTwice", laid_pintle_api_ErrTwice), ("pintle/api.ErrLacks", laid_pintle_api_ErrLacks), ("pintle/api.ErrUnsafe", laid_pintle_api_ErrUnsafe)], narrowed := true }
def TopWorthUptoSaid : Prop := topWorthUptoRow.holds Tryd.pinned (OpenSpec.upto topWorthSpec)

end Rows
end Go.Proofs.YtdndpfaapnecjaaDoor
