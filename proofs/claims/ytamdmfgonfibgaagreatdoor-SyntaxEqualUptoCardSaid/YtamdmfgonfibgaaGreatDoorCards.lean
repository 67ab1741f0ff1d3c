/-
  DERIVED. GIVEN WITH THE SEED: THE CARDS: each row of YtamdmfgonfibgaaGreatDoorRows.lean that lists a variable, with what it lists TIED to the program's text (the seventh form; the later family's looks); each row that meets fmt, with fmt's text TOLD by the authors' own Lean function (tested against real Go, not proved from fmt's source: count such statements apart). THE CARD IS WHAT COUNTS. Prove the row's statement (the work); the ties are given (YtamdmfgonfibgaaGreatDoorTie.lean); close each card by the builder's one call (the guide's Derived/Test/ToyasCard.lean, 'card_holds'). Laid BY PROGRAM, IN A SANDBOX (cutbox-door.mjs). By AI agents, Wed Nov 11 2026. No macro, syntax, notation, axiom, sorry.
-/
import Derived.Test.YtamdmfgonfibgaaGreatDoorRows
import GoSem.ClaimSeven
namespace Go.Proofs.YtamdmfgonfibgaaGreatDoor
namespace Rows

/-- THE TIED CARD OF 'hackamorelaw02.SyntaxEqual'. -/
def syntaxEqualCard : Claim7 := { stood := { row := syntaxEqualRow, standIns := [], harness := (true, "69d0a57103d860d5ffed15b6e646410c15773598595b6089e96f5e1fd234f4a4"), looks := false }, kinds := [], alts := [], laidByText := true, laidKinds := [.data, .listed, .data, .pinned], laidTests := true, laidLooks := .later }
def SyntaxEqualCardSaid : Prop := Claim7.holds Tryz.pinned (.plain (OpenSpec.ofChange syntaxEqualSpec)) syntaxEqualCard

/-- THE SECOND FORM's CARD OF 'hackamorelaw02.SyntaxEqual'. -/
def syntaxEqualUptoCard : Claim7 := { stood := { row := syntaxEqualUptoRow, standIns := [], harness := (true, "69d0a57103d860d5ffed15b6e646410c15773598595b6089e96f5e1fd234f4a4"), looks := false }, kinds := [], alts := [], laidByText := true, laidKinds := [.data, .listed, .data, .pinned], laidTests := true, laidLooks := .later }
def SyntaxEqualUptoCardSaid : Prop := Claim7.holds Tryz.pinned (.plain (OpenSpec.upto syntaxEqualSpec)) syntaxEqualUptoCard
end Rows
end Go.Proofs.YtamdmfgonfibgaaGreatDoor
