/-
  DERIVED. GIVEN WITH THE SEED: THE CARDS: each row of YtikogofioggmlaaGreatDoorRows.lean that lists a variable, with what it lists TIED to the program's text (the seventh form; the later family's looks); each row that meets fmt, with fmt's text TOLD by the authors' own Lean function (tested against real Go, not proved from fmt's source: count such statements apart). THE CARD IS WHAT COUNTS. Prove the row's statement (the work); the ties are given (YtikogofioggmlaaGreatDoorTie.lean); close each card by the builder's one call (the guide's Derived/Test/ToyasCard.lean, 'card_holds'). Laid BY PROGRAM, IN A SANDBOX (cutbox-door.mjs). By AI agents, Wed Nov 11 2026. No macro, syntax, notation, axiom, sorry.
-/
import Derived.Test.YtikogofioggmlaaGreatDoorRows
import GoSem.ClaimSeven
namespace Go.Proofs.YtikogofioggmlaaGreatDoor
namespace Rows

/-- THE TIED CARD OF 'luminairetop.TopLooksChain'. -/
def topLooksChainCard : Claim7 := { stood := { row := topLooksChainRow, standIns := [], harness := (true, "f571a985c560db819a4e9164d1b19662c62ee60cb12715822b6dc9cfbcab7294"), looks := true }, kinds := [], alts := [], laidByText := true, laidKinds := [.data, .data, .data, .sentinel, .sentinel], laidTests := true, laidLooks := .later }
def TopLooksChainCardSaid : Prop := Claim7.holds Tryz.pinned (.plain (OpenSpec.ofChange topLooksChainSpec)) topLooksChainCard

/-- THE SECOND FORM's CARD OF 'luminairetop.TopLooksChain'. -/
def topLooksChainUptoCard : Claim7 := { stood := { row := topLooksChainUptoRow, standIns := [], harness := (true, "f571a985c560db819a4e9164d1b19662c62ee60cb12715822b6dc9cfbcab7294"), looks := true }, kinds := [], alts := [], laidByText := true, laidKinds := [.data, .data, .data, .sentinel, .sentinel], laidTests := true, laidLooks := .later }
def TopLooksChainUptoCardSaid : Prop := Claim7.holds Tryz.pinned (.plain (OpenSpec.upto topLooksChainSpec)) topLooksChainUptoCard
end Rows
end Go.Proofs.YtikogofioggmlaaGreatDoor
