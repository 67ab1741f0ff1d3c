/-
  DERIVED. GIVEN WITH THE SEED: THE CARDS: each row of YtddpjgoboboidaaGreatDoorRows.lean that lists a variable, with what it lists TIED to the program's text (the seventh form; the later family's looks); each row that meets fmt, with fmt's text TOLD by the authors' own Lean function (tested against real Go, not proved from fmt's source: count such statements apart). THE CARD IS WHAT COUNTS. Prove the row's statement (the work); the ties are given (YtddpjgoboboidaaGreatDoorTie.lean); close each card by the builder's one call (the guide's Derived/Test/ToyasCard.lean, 'card_holds'). Laid BY PROGRAM, IN A SANDBOX (cutbox-door.mjs). By AI agents, Wed Nov 11 2026. No macro, syntax, notation, axiom, sorry.
-/
import Derived.Test.YtddpjgoboboidaaGreatDoorRows
import GoSem.ClaimSeven
namespace Go.Proofs.YtddpjgoboboidaaGreatDoor
namespace Rows

/-- THE TIED CARD OF 'hackamorelaw02.SyntaxParts'. -/
def syntaxPartsCard : Claim7 := { stood := { row := syntaxPartsRow, standIns := [], harness := (true, "f4e4aa818f05cd582235f4d9706e89f044867145c13ab2c800c05db783cc4899"), looks := false }, kinds := [], alts := [], laidByText := true, laidKinds := [.data, .listed, .data, .pinned], laidTests := true, laidLooks := .later }
def SyntaxPartsCardSaid : Prop := Claim7.holds Tryz.pinned (.plain (OpenSpec.ofChange syntaxPartsSpec)) syntaxPartsCard

/-- THE TIED CARD OF 'hackamorelaw02.SyntaxPlaces'. -/
def syntaxPlacesCard : Claim7 := { stood := { row := syntaxPlacesRow, standIns := [], harness := (true, "f4e4aa818f05cd582235f4d9706e89f044867145c13ab2c800c05db783cc4899"), looks := false }, kinds := [], alts := [], laidByText := true, laidKinds := [.data, .listed, .data, .pinned], laidTests := true, laidLooks := .later }
def SyntaxPlacesCardSaid : Prop := Claim7.holds Tryz.pinned (.plain (OpenSpec.ofChange syntaxPlacesSpec)) syntaxPlacesCard

/-- THE TIED CARD OF 'hackamorelaw02.SyntaxChecks'. -/
def syntaxChecksCard : Claim7 := { stood := { row := syntaxChecksRow, standIns := [], harness := (true, "f4e4aa818f05cd582235f4d9706e89f044867145c13ab2c800c05db783cc4899"), looks := false }, kinds := [], alts := [], laidByText := true, laidKinds := [.data, .data, .data, .data, .listed, .data, .pinned], laidTests := true, laidLooks := .later }
def SyntaxChecksCardSaid : Prop := Claim7.holds Tryz.pinned (.plain (OpenSpec.ofChange syntaxChecksSpec)) syntaxChecksCard

/-- THE SECOND FORM's CARD OF 'hackamorelaw02.SyntaxParts'. -/
def syntaxPartsUptoCard : Claim7 := { stood := { row := syntaxPartsUptoRow, standIns := [], harness := (true, "f4e4aa818f05cd582235f4d9706e89f044867145c13ab2c800c05db783cc4899"), looks := false }, kinds := [], alts := [], laidByText := true, laidKinds := [.data, .listed, .data, .pinned], laidTests := true, laidLooks := .later }
def SyntaxPartsUptoCardSaid : Prop := Claim7.holds Tryz.pinned (.plain (OpenSpec.upto syntaxPartsSpec)) syntaxPartsUptoCard

/-- THE SECOND FORM's CARD OF 'hackamorelaw02.SyntaxPlaces'. -/
def syntaxPlacesUptoCard : Claim7 := { stood := { row := syntaxPlacesUptoRow, standIns := [], harness := (true, "f4e4aa818f05cd582235f4d9706e89f044867145c13ab2c800c05db783cc4899"), looks := false }, kinds := [], alts := [], laidByText := true, laidKinds := [.data, .listed, .data, .pinned], laidTests := true, laidLooks := .later }
def SyntaxPlacesUptoCardSaid : Prop := Claim7.holds Tryz.pinned (.plain (OpenSpec.upto syntaxPlacesSpec)) syntaxPlacesUptoCard

/-- THE SECOND FORM's CARD OF 'hackamorelaw02.SyntaxChecks'. -/
def syntaxChecksUptoCard : Claim7 := { stood := { row := syntaxChecksUptoRow, standIns := [], harness := (true, "f4e4aa818f05cd582235f4d9706e89f044867145c13ab2c800c05db783cc4899"), looks := false }, kinds := [], alts := [], laidByText := true, laidKinds := [.data, .data, .data, .data, .listed, .data, .pinned], laidTests := true, laidLooks := .later }
def SyntaxChecksUptoCardSaid : Prop := Claim7.holds Tryz.pinned (.plain (OpenSpec.upto syntaxChecksSpec)) syntaxChecksUptoCard
end Rows
end Go.Proofs.YtddpjgoboboidaaGreatDoor
