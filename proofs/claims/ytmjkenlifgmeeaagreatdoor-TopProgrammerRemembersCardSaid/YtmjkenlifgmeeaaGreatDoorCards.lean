/-
  DERIVED. GIVEN WITH THE SEED: THE CARDS: each row of YtmjkenlifgmeeaaGreatDoorRows.lean that lists a variable, with what it lists TIED to the program's text (the seventh form; the later family's looks); each row that meets fmt, with fmt's text TOLD by the authors' own Lean function (tested against real Go, not proved from fmt's source: count such statements apart). THE CARD IS WHAT COUNTS. Prove the row's statement (the work); the ties are given (YtmjkenlifgmeeaaGreatDoorTie.lean); close each card by the builder's one call (the guide's Derived/Test/ToyasCard.lean, 'card_holds'). Laid BY PROGRAM, IN A SANDBOX (cutbox-door.mjs). By AI agents, Wed Nov 11 2026. No macro, syntax, notation, axiom, sorry.
-/
import Derived.Test.YtmjkenlifgmeeaaGreatDoorRows
import GoSem.ClaimSeven
namespace Go.Proofs.YtmjkenlifgmeeaaGreatDoor
namespace Rows

/-- THE TIED CARD OF 'luminairetop.TopProgrammerRemembers'. -/
def topProgrammerRemembersCard : Claim7 := { stood := { row := topProgrammerRemembersRow, standIns := [], harness := (true, "1ebc34141749ce55d813f9c3f257f66c57bbba0cea532001aec9bae537b2a429"), looks := true }, kinds := [], alts := [], laidByText := true, laidKinds := [.data, .data, .data, .data, .sentinel, .sentinel, .pinned], laidTests := true, laidLooks := .later }
def TopProgrammerRemembersCardSaid : Prop := Claim7.holds Tryz.pinned (.plain (OpenSpec.ofChange topProgrammerRemembersSpec)) topProgrammerRemembersCard

/-- THE SECOND FORM's CARD OF 'luminairetop.TopProgrammerRemembers'. -/
def topProgrammerRemembersUptoCard : Claim7 := { stood := { row := topProgrammerRemembersUptoRow, standIns := [], harness := (true, "1ebc34141749ce55d813f9c3f257f66c57bbba0cea532001aec9bae537b2a429"), looks := true }, kinds := [], alts := [], laidByText := true, laidKinds := [.data, .data, .data, .data, .sentinel, .sentinel, .pinned], laidTests := true, laidLooks := .later }
def TopProgrammerRemembersUptoCardSaid : Prop := Claim7.holds Tryz.pinned (.plain (OpenSpec.upto topProgrammerRemembersSpec)) topProgrammerRemembersUptoCard
end Rows
end Go.Proofs.YtmjkenlifgmeeaaGreatDoor
