/-
  DERIVED. GIVEN WITH THE SEED: THE CARDS: each row of YtnlhdddhdcljkaaGreatDoorRows.lean that lists a variable, with what it lists TIED to the program's text (the seventh form; the later family's looks); each row that meets fmt, with fmt's text TOLD by the authors' own Lean function (tested against real Go, not proved from fmt's source: count such statements apart). THE CARD IS WHAT COUNTS. Prove the row's statement (the work); the ties are given (YtnlhdddhdcljkaaGreatDoorTie.lean); close each card by the builder's one call (the guide's Derived/Test/ToyasCard.lean, 'card_holds'). Laid BY PROGRAM, IN A SANDBOX (cutbox-door.mjs). By AI agents, Wed Nov 11 2026. No macro, syntax, notation, axiom, sorry.
-/
import Derived.Test.YtnlhdddhdcljkaaGreatDoorRows
import GoSem.ClaimSeven
namespace Go.Proofs.YtnlhdddhdcljkaaGreatDoor
namespace Rows

/-- THE TIED CARD OF 'luminairetop.TopMixesAreBetween'. -/
def topMixesAreBetweenCard : Claim7 := { stood := { row := topMixesAreBetweenRow, standIns := [], harness := (true, "a73c5b236e3ecc926291d7074c6764fb337143babf169f44382c9de794ee5e4f"), looks := true }, kinds := [], alts := [], laidByText := true, laidKinds := [.data, .data, .data, .data, .sentinel, .sentinel, .pinned], laidTests := true, laidLooks := .later }
def TopMixesAreBetweenCardSaid : Prop := Claim7.holds Tryz.pinned (.plain (OpenSpec.ofChange topMixesAreBetweenSpec)) topMixesAreBetweenCard

/-- THE SECOND FORM's CARD OF 'luminairetop.TopMixesAreBetween'. -/
def topMixesAreBetweenUptoCard : Claim7 := { stood := { row := topMixesAreBetweenUptoRow, standIns := [], harness := (true, "a73c5b236e3ecc926291d7074c6764fb337143babf169f44382c9de794ee5e4f"), looks := true }, kinds := [], alts := [], laidByText := true, laidKinds := [.data, .data, .data, .data, .sentinel, .sentinel, .pinned], laidTests := true, laidLooks := .later }
def TopMixesAreBetweenUptoCardSaid : Prop := Claim7.holds Tryz.pinned (.plain (OpenSpec.upto topMixesAreBetweenSpec)) topMixesAreBetweenUptoCard
end Rows
end Go.Proofs.YtnlhdddhdcljkaaGreatDoor
