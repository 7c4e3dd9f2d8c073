/-
  DERIVED. GIVEN WITH THE SEED: THE CARDS: each row of YthciddlfnajchaaDoorRows.lean that lists a variable, with what it lists TIED to the program's text (the seventh form; the later family's looks); each row that meets fmt, with fmt's text TOLD by the authors' own Lean function (tested against real Go, not proved from fmt's source: count such statements apart). THE CARD IS WHAT COUNTS. Prove the row's statement (the work); the ties are given (YthciddlfnajchaaDoorTie.lean); close each card by the builder's one call (the guide's Derived/Test/ToyasCard.lean, 'card_holds'). Laid BY PROGRAM, IN A SANDBOX (cutbox-door.mjs). By AI agents, Wed Nov 11 2026. No macro, syntax, notation, axiom, sorry.
-/
import Derived.Test.YthciddlfnajchaaDoorRows
import GoSem.ClaimSeven
namespace Go.Proofs.YthciddlfnajchaaDoor
namespace Rows

/-- THE TIED CARD OF 'pintlelaw8.DigestTwo'. -/
def digestTwoCard : Claim7 := { stood := { row := digestTwoRow, standIns := [], harness := (true, "d8a56d2286727d27cc5b99ffecb4a8222ad10b50f1e685224370969949da4564"), looks := true }, kinds := [], alts := [], laidByText := true, laidKinds := [.sentinel], laidTests := true, laidLooks := .later }
def DigestTwoCardSaid : Prop := Claim7.holds Tryd.pinned (.plain (OpenSpec.ofChange digestTwoSpec)) digestTwoCard

/-- THE TIED CARD OF 'pintlelaw8.DigestNothing'. -/
def digestNothingCard : Claim7 := { stood := { row := digestNothingRow, standIns := [], harness := (true, "d8a56d2286727d27cc5b99ffecb4a8222ad10b50f1e685224370969949da4564"), looks := true }, kinds := [], alts := [], laidByText := true, laidKinds := [.sentinel], laidTests := true, laidLooks := .later }
def DigestNothingCardSaid : Prop := Claim7.holds Tryd.pinned (.plain (OpenSpec.ofChange digestNothingSpec)) digestNothingCard

/-- THE TIED CARD OF 'pintlelaw8.DigestCuts'. -/
def digestCutsCard : Claim7 := { stood := { row := digestCutsRow, standIns := [], harness := (true, "d8a56d2286727d27cc5b99ffecb4a8222ad10b50f1e685224370969949da4564"), looks := true }, kinds := [], alts := [], laidByText := true, laidKinds := [.sentinel], laidTests := true, laidLooks := .later }
def DigestCutsCardSaid : Prop := Claim7.holds Tryd.pinned (.plain (OpenSpec.ofChange digestCutsSpec)) digestCutsCard

/-- THE TIED CARD OF 'pintlelaw8.DigestOwn'. -/
def digestOwnCard : Claim7 := { stood := { row := digestOwnRow, standIns := [], harness := (true, "d8a56d2286727d27cc5b99ffecb4a8222ad10b50f1e685224370969949da4564"), looks := true }, kinds := [], alts := [], laidByText := true, laidKinds := [.sentinel], laidTests := true, laidLooks := .later }
def DigestOwnCardSaid : Prop := Claim7.holds Tryd.pinned (.plain (OpenSpec.ofChange digestOwnSpec)) digestOwnCard

/-- THE TIED CARD OF 'pintlelaw8.DigestNews'. -/
def digestNewsCard : Claim7 := { stood := { row := digestNewsRow, standIns := [], harness := (true, "d8a56d2286727d27cc5b99ffecb4a8222ad10b50f1e685224370969949da4564"), looks := true }, kinds := [], alts := [], laidByText := true, laidKinds := [.sentinel], laidTests := true, laidLooks := .later }
def DigestNewsCardSaid : Prop := Claim7.holds Tryd.pinned (.plain (OpenSpec.ofChange digestNewsSpec)) digestNewsCard

/-- THE TIED CARD OF 'pintlelaw8.DigestPlays'. -/
def digestPlaysCard : Claim7 := { stood := { row := digestPlaysRow, standIns := [], harness := (true, "d8a56d2286727d27cc5b99ffecb4a8222ad10b50f1e685224370969949da4564"), looks := true }, kinds := [], alts := [], laidByText := true, laidKinds := [.sentinel], laidTests := true, laidLooks := .later }
def DigestPlaysCardSaid : Prop := Claim7.holds Tryd.pinned (.plain (OpenSpec.ofChange digestPlaysSpec)) digestPlaysCard

/-- THE TIED CARD OF 'pintlelaw8.DigestOfs'. -/
def digestOfsCard : Claim7 := { stood := { row := digestOfsRow, standIns := [], harness := (true, "d8a56d2286727d27cc5b99ffecb4a8222ad10b50f1e685224370969949da4564"), looks := true }, kinds := [], alts := [], laidByText := true, laidKinds := [.sentinel], laidTests := true, laidLooks := .later }
def DigestOfsCardSaid : Prop := Claim7.holds Tryd.pinned (.plain (OpenSpec.ofChange digestOfsSpec)) digestOfsCard

/-- THE SECOND FORM's CARD OF 'pintlelaw8.DigestTwo'. -/
def digestTwoUptoCard : Claim7 := { stood := { row := digestTwoUptoRow, standIns := [], harness := (true, "d8a56d2286727d27cc5b99ffecb4a8222ad10b50f1e685224370969949da4564"), looks := true }, kinds := [], alts := [], laidByText := true, laidKinds := [.sentinel], laidTests := true, laidLooks := .later }
def DigestTwoUptoCardSaid : Prop := Claim7.holds Tryd.pinned (.plain (OpenSpec.upto digestTwoSpec)) digestTwoUptoCard

/-- THE SECOND FORM's CARD OF 'pintlelaw8.DigestNothing'. -/
def digestNothingUptoCard : Claim7 := { stood := { row := digestNothingUptoRow, standIns := [], harness := (true, "d8a56d2286727d27cc5b99ffecb4a8222ad10b50f1e685224370969949da4564"), looks := true }, kinds := [], alts := [], laidByText := true, laidKinds := [.sentinel], laidTests := true, laidLooks := .later }
def DigestNothingUptoCardSaid : Prop := Claim7.holds Tryd.pinned (.plain (OpenSpec.upto digestNothingSpec)) digestNothingUptoCard

/-- THE SECOND FORM's CARD OF 'pintlelaw8.DigestCuts'. -/
def digestCutsUptoCard : Claim7 := { stood := { row := digestCutsUptoRow, standIns := [], harness := (true, "d8a56d2286727d27cc5b99ffecb4a8222ad10b50f1e685224370969949da4564"), looks := true }, kinds := [], alts := [], laidByText := true, laidKinds := [.sentinel], laidTests := true, laidLooks := .later }
def DigestCutsUptoCardSaid : Prop := Claim7.holds Tryd.pinned (.plain (OpenSpec.upto digestCutsSpec)) digestCutsUptoCard

/-- THE SECOND FORM's CARD OF 'pintlelaw8.DigestOwn'. -/
def digestOwnUptoCard : Claim7 := { stood := { row := digestOwnUptoRow, standIns := [], harness := (true, "d8a56d2286727d27cc5b99ffecb4a8222ad10b50f1e685224370969949da4564"), looks := true }, kinds := [], alts := [], laidByText := true, laidKinds := [.sentinel], laidTests := true, laidLooks := .later }
def DigestOwnUptoCardSaid : Prop := Claim7.holds Tryd.pinned (.plain (OpenSpec.upto digestOwnSpec)) digestOwnUptoCard

/-- THE SECOND FORM's CARD OF 'pintlelaw8.DigestNews'. -/
def digestNewsUptoCard : Claim7 := { stood := { row := digestNewsUptoRow, standIns := [], harness := (true, "d8a56d2286727d27cc5b99ffecb4a8222ad10b50f1e685224370969949da4564"), looks := true }, kinds := [], alts := [], laidByText := true, laidKinds := [.sentinel], laidTests := true, laidLooks := .later }
def DigestNewsUptoCardSaid : Prop := Claim7.holds Tryd.pinned (.plain (OpenSpec.upto digestNewsSpec)) digestNewsUptoCard

/-- THE SECOND FORM's CARD OF 'pintlelaw8.DigestPlays'. -/
def digestPlaysUptoCard : Claim7 := { stood := { row := digestPlaysUptoRow, standIns := [], harness := (true, "d8a56d2286727d27cc5b99ffecb4a8222ad10b50f1e685224370969949da4564"), looks := true }, kinds := [], alts := [], laidByText := true, laidKinds := [.sentinel], laidTests := true, laidLooks := .later }
def DigestPlaysUptoCardSaid : Prop := Claim7.holds Tryd.pinned (.plain (OpenSpec.upto digestPlaysSpec)) digestPlaysUptoCard

/-- THE SECOND FORM's CARD OF 'pintlelaw8.DigestOfs'. -/
def digestOfsUptoCard : Claim7 := { stood := { row := digestOfsUptoRow, standIns := [], harness := (true, "d8a56d2286727d27cc5b99ffecb4a8222ad10b50f1e685224370969949da4564"), looks := true }, kinds := [], alts := [], laidByText := true, laidKinds := [.sentinel], laidTests := true, laidLooks := .later }
def DigestOfsUptoCardSaid : Prop := Claim7.holds Tryd.pinned (.plain (OpenSpec.upto digestOfsSpec)) digestOfsUptoCard
end Rows
end Go.Proofs.YthciddlfnajchaaDoor
