/-
  DERIVED. GIVEN WITH THE SEED: THE CARDS: each row of YtdndpfaapnecjaaDoorRows.lean that lists a variable, with what it lists TIED to the program's text (the seventh form; the later family's looks); each row that meets fmt, with fmt's text TOLD by the authors' own Lean function (tested against real Go, not proved from fmt's source: count such statements apart). THE CARD IS WHAT COUNTS. Prove the row's statement (the work); the ties are given (YtdndpfaapnecjaaDoorTie.lean); close each card by the builder's one call (the guide's Derived/Test/ToyasCard.lean, 'card_holds'). Laid BY PROGRAM, IN A SANDBOX (cutbox-door.mjs). By AI agents, Wed Nov 11 2026. No macro, syntax, notation, axiom, sorry.
-/
import Derived.Test.YtdndpfaapnecjaaDoorRows
import GoSem.ClaimSeven
namespace Go.Proofs.YtdndpfaapnecjaaDoor
namespace Rows

/-- THE TIED CARD OF 'pintletop.TopWorth'. -/
def topWorthCard : Claim7 := { stood := { row := topWorthRow, standIns := [], harness := (true, "266df26ee1562eb1f7cdd55603962c4f6fa52925f092c53f08c9c8475ab41aa9"), looks := false }, kinds := [], alts := [], laidByText := true, laidKinds := [.sentinel, .sentinel, .sentinel, .sentinel, .sentinel], laidTests := true, laidLooks := .later }
def TopWorthCardSaid : Prop := Claim7.holds Tryd.pinned (.plain (OpenSpec.ofChange topWorthSpec)) topWorthCard

/-- THE SECOND FORM's CARD OF 'pintletop.TopWorth'. -/
def topWorthUptoCard : Claim7 := { stood := { row := topWorthUptoRow, standIns := [], harness := (true, "266df26ee1562eb1f7cdd55603962c4f6fa52925f092c53f08c9c8475ab41aa9"), looks := false }, kinds := [], alts := [], laidByText := true, laidKinds := [.sentinel, .sentinel, .sentinel, .sentinel, .sentinel], laidTests := true, laidLooks := .later }
def TopWorthUptoCardSaid : Prop := Claim7.holds Tryd.pinned (.plain (OpenSpec.upto topWorthSpec)) topWorthUptoCard
end Rows
end Go.Proofs.YtdndpfaapnecjaaDoor
