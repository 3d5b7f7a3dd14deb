/-
  DERIVED. GIVEN WITH THE SEED: THE CARDS: each row of YtnjaikomoljmjaaGreatDoorRows.lean that lists a variable, with what it lists TIED to the program's text (the seventh form; the later family's looks); each row that meets fmt, with fmt's text TOLD by the authors' own Lean function (tested against real Go, not proved from fmt's source: count such statements apart). THE CARD IS WHAT COUNTS. Prove the row's statement (the work); the ties are given (YtnjaikomoljmjaaGreatDoorTie.lean); close each card by the builder's one call (the guide's Derived/Test/ToyasCard.lean, 'card_holds'). Laid BY PROGRAM, IN A SANDBOX (cutbox-door.mjs). By AI agents, Wed Nov 11 2026. No macro, syntax, notation, axiom, sorry.
-/
import Derived.Test.YtnjaikomoljmjaaGreatDoorRows
import GoSem.ClaimSeven
namespace Go.Proofs.YtnjaikomoljmjaaGreatDoor
namespace Rows

/-- THE TIED CARD OF 'luminairelaw23.ClockShows'. -/
def clockShowsCard : Claim7 := { stood := { row := clockShowsRow, standIns := [], harness := (true, "32dbe2ffcb0679d02eef48c850b3c0d1eb70430c09367cfa21632ab13ee1693e"), looks := true }, kinds := [], alts := [], laidByText := true, laidKinds := [.data, .data, .data, .data, .sentinel, .sentinel, .pinned], laidTests := true, laidLooks := .later }
def ClockShowsCardSaid : Prop := Claim7.holds Tryz.pinned (.plain (OpenSpec.ofChange clockShowsSpec)) clockShowsCard

/-- THE TIED CARD OF 'luminairelaw23.ClockReturns'. -/
def clockReturnsCard : Claim7 := { stood := { row := clockReturnsRow, standIns := [], harness := (true, "32dbe2ffcb0679d02eef48c850b3c0d1eb70430c09367cfa21632ab13ee1693e"), looks := true }, kinds := [], alts := [], laidByText := true, laidKinds := [.data, .data, .data, .data, .sentinel, .sentinel, .pinned], laidTests := true, laidLooks := .later }
def ClockReturnsCardSaid : Prop := Claim7.holds Tryz.pinned (.plain (OpenSpec.ofChange clockReturnsSpec)) clockReturnsCard

/-- THE TIED CARD OF 'luminairelaw23.ClockMeets'. -/
def clockMeetsCard : Claim7 := { stood := { row := clockMeetsRow, standIns := [], harness := (true, "32dbe2ffcb0679d02eef48c850b3c0d1eb70430c09367cfa21632ab13ee1693e"), looks := true }, kinds := [], alts := [], laidByText := true, laidKinds := [.data, .data, .data, .data, .sentinel, .sentinel, .pinned], laidTests := true, laidLooks := .later }
def ClockMeetsCardSaid : Prop := Claim7.holds Tryz.pinned (.plain (OpenSpec.ofChange clockMeetsSpec)) clockMeetsCard

/-- THE TIED CARD OF 'luminairelaw23.ClockKeeps'. -/
def clockKeepsCard : Claim7 := { stood := { row := clockKeepsRow, standIns := [], harness := (true, "32dbe2ffcb0679d02eef48c850b3c0d1eb70430c09367cfa21632ab13ee1693e"), looks := true }, kinds := [], alts := [], laidByText := true, laidKinds := [.data, .data, .data, .data, .sentinel, .sentinel, .pinned], laidTests := true, laidLooks := .later }
def ClockKeepsCardSaid : Prop := Claim7.holds Tryz.pinned (.plain (OpenSpec.ofChange clockKeepsSpec)) clockKeepsCard

/-- THE TIED CARD OF 'luminairelaw23.ClockTurns'. -/
def clockTurnsCard : Claim7 := { stood := { row := clockTurnsRow, standIns := [], harness := (true, "32dbe2ffcb0679d02eef48c850b3c0d1eb70430c09367cfa21632ab13ee1693e"), looks := true }, kinds := [], alts := [], laidByText := true, laidKinds := [.data, .data, .data, .data, .sentinel, .sentinel, .pinned], laidTests := true, laidLooks := .later }
def ClockTurnsCardSaid : Prop := Claim7.holds Tryz.pinned (.plain (OpenSpec.ofChange clockTurnsSpec)) clockTurnsCard

/-- THE TIED CARD OF 'luminairelaw23.ClockComes'. -/
def clockComesCard : Claim7 := { stood := { row := clockComesRow, standIns := [], harness := (true, "32dbe2ffcb0679d02eef48c850b3c0d1eb70430c09367cfa21632ab13ee1693e"), looks := true }, kinds := [], alts := [], laidByText := true, laidKinds := [.data, .data, .data, .data, .sentinel, .sentinel, .pinned], laidTests := true, laidLooks := .later }
def ClockComesCardSaid : Prop := Claim7.holds Tryz.pinned (.plain (OpenSpec.ofChange clockComesSpec)) clockComesCard

/-- THE TIED CARD OF 'luminairelaw02.RatioComputes'. -/
def ratioComputesCard : Claim7 := { stood := { row := ratioComputesRow, standIns := [], harness := (true, "32dbe2ffcb0679d02eef48c850b3c0d1eb70430c09367cfa21632ab13ee1693e"), looks := true }, kinds := [], alts := [], laidByText := true, laidKinds := [.data, .data, .data, .data, .sentinel, .sentinel, .pinned], laidTests := true, laidLooks := .later }
def RatioComputesCardSaid : Prop := Claim7.holds Tryz.pinned (.plain (OpenSpec.ofChange ratioComputesSpec)) ratioComputesCard

/-- THE TIED CARD OF 'luminairelaw02.RatioLimits'. -/
def ratioLimitsCard : Claim7 := { stood := { row := ratioLimitsRow, standIns := [], harness := (true, "32dbe2ffcb0679d02eef48c850b3c0d1eb70430c09367cfa21632ab13ee1693e"), looks := true }, kinds := [], alts := [], laidByText := true, laidKinds := [.data, .data, .data, .data, .sentinel, .sentinel, .pinned], laidTests := true, laidLooks := .later }
def RatioLimitsCardSaid : Prop := Claim7.holds Tryz.pinned (.plain (OpenSpec.ofChange ratioLimitsSpec)) ratioLimitsCard

/-- THE TIED CARD OF 'luminairelaw02.RatioMixes'. -/
def ratioMixesCard : Claim7 := { stood := { row := ratioMixesRow, standIns := [], harness := (true, "32dbe2ffcb0679d02eef48c850b3c0d1eb70430c09367cfa21632ab13ee1693e"), looks := true }, kinds := [], alts := [], laidByText := true, laidKinds := [.data, .data, .data, .data, .sentinel, .sentinel, .pinned], laidTests := true, laidLooks := .later }
def RatioMixesCardSaid : Prop := Claim7.holds Tryz.pinned (.plain (OpenSpec.ofChange ratioMixesSpec)) ratioMixesCard

/-- THE TIED CARD OF 'luminairelaw02.RatioClamps'. -/
def ratioClampsCard : Claim7 := { stood := { row := ratioClampsRow, standIns := [], harness := (true, "32dbe2ffcb0679d02eef48c850b3c0d1eb70430c09367cfa21632ab13ee1693e"), looks := true }, kinds := [], alts := [], laidByText := true, laidKinds := [.data, .data, .data, .data, .sentinel, .sentinel, .pinned], laidTests := true, laidLooks := .later }
def RatioClampsCardSaid : Prop := Claim7.holds Tryz.pinned (.plain (OpenSpec.ofChange ratioClampsSpec)) ratioClampsCard

/-- THE TIED CARD OF 'luminairelaw02.RatioField'. -/
def ratioFieldCard : Claim7 := { stood := { row := ratioFieldRow, standIns := [], harness := (true, "32dbe2ffcb0679d02eef48c850b3c0d1eb70430c09367cfa21632ab13ee1693e"), looks := true }, kinds := [], alts := [], laidByText := true, laidKinds := [.data, .data, .data, .data, .sentinel, .sentinel, .pinned], laidTests := true, laidLooks := .later }
def RatioFieldCardSaid : Prop := Claim7.holds Tryz.pinned (.plain (OpenSpec.ofChange ratioFieldSpec)) ratioFieldCard

/-- THE TIED CARD OF 'luminairelaw02.RatioNeighbours'. -/
def ratioNeighboursCard : Claim7 := { stood := { row := ratioNeighboursRow, standIns := [], harness := (true, "32dbe2ffcb0679d02eef48c850b3c0d1eb70430c09367cfa21632ab13ee1693e"), looks := true }, kinds := [], alts := [], laidByText := true, laidKinds := [.data, .data, .data, .data, .sentinel, .sentinel, .pinned], laidTests := true, laidLooks := .later }
def RatioNeighboursCardSaid : Prop := Claim7.holds Tryz.pinned (.plain (OpenSpec.ofChange ratioNeighboursSpec)) ratioNeighboursCard

/-- THE TIED CARD OF 'luminairelaw02.RatioBetween'. -/
def ratioBetweenCard : Claim7 := { stood := { row := ratioBetweenRow, standIns := [], harness := (true, "32dbe2ffcb0679d02eef48c850b3c0d1eb70430c09367cfa21632ab13ee1693e"), looks := true }, kinds := [], alts := [], laidByText := true, laidKinds := [.data, .data, .data, .data, .sentinel, .sentinel, .pinned], laidTests := true, laidLooks := .later }
def RatioBetweenCardSaid : Prop := Claim7.holds Tryz.pinned (.plain (OpenSpec.ofChange ratioBetweenSpec)) ratioBetweenCard

/-- THE TIED CARD OF 'luminairelaw02.RatioMakes'. -/
def ratioMakesCard : Claim7 := { stood := { row := ratioMakesRow, standIns := [], harness := (true, "32dbe2ffcb0679d02eef48c850b3c0d1eb70430c09367cfa21632ab13ee1693e"), looks := true }, kinds := [], alts := [], laidByText := true, laidKinds := [.data, .data, .data, .data, .sentinel, .sentinel, .pinned], laidTests := true, laidLooks := .later }
def RatioMakesCardSaid : Prop := Claim7.holds Tryz.pinned (.plain (OpenSpec.ofChange ratioMakesSpec)) ratioMakesCard

/-- THE TIED CARD OF 'luminairelaw02.RatioRounds'. -/
def ratioRoundsCard : Claim7 := { stood := { row := ratioRoundsRow, standIns := [], harness := (true, "32dbe2ffcb0679d02eef48c850b3c0d1eb70430c09367cfa21632ab13ee1693e"), looks := true }, kinds := [], alts := [], laidByText := true, laidKinds := [.data, .data, .data, .data, .sentinel, .sentinel, .pinned], laidTests := true, laidLooks := .later }
def RatioRoundsCardSaid : Prop := Claim7.holds Tryz.pinned (.plain (OpenSpec.ofChange ratioRoundsSpec)) ratioRoundsCard

/-- THE SECOND FORM's CARD OF 'luminairelaw23.ClockShows'. -/
def clockShowsUptoCard : Claim7 := { stood := { row := clockShowsUptoRow, standIns := [], harness := (true, "32dbe2ffcb0679d02eef48c850b3c0d1eb70430c09367cfa21632ab13ee1693e"), looks := true }, kinds := [], alts := [], laidByText := true, laidKinds := [.data, .data, .data, .data, .sentinel, .sentinel, .pinned], laidTests := true, laidLooks := .later }
def ClockShowsUptoCardSaid : Prop := Claim7.holds Tryz.pinned (.plain (OpenSpec.upto clockShowsSpec)) clockShowsUptoCard

/-- THE SECOND FORM's CARD OF 'luminairelaw23.ClockReturns'. -/
def clockReturnsUptoCard : Claim7 := { stood := { row := clockReturnsUptoRow, standIns := [], harness := (true, "32dbe2ffcb0679d02eef48c850b3c0d1eb70430c09367cfa21632ab13ee1693e"), looks := true }, kinds := [], alts := [], laidByText := true, laidKinds := [.data, .data, .data, .data, .sentinel, .sentinel, .pinned], laidTests := true, laidLooks := .later }
def ClockReturnsUptoCardSaid : Prop := Claim7.holds Tryz.pinned (.plain (OpenSpec.upto clockReturnsSpec)) clockReturnsUptoCard

/-- THE SECOND FORM's CARD OF 'luminairelaw23.ClockMeets'. -/
def clockMeetsUptoCard : Claim7 := { stood := { row := clockMeetsUptoRow, standIns := [], harness := (true, "32dbe2ffcb0679d02eef48c850b3c0d1eb70430c09367cfa21632ab13ee1693e"), looks := true }, kinds := [], alts := [], laidByText := true, laidKinds := [.data, .data, .data, .data, .sentinel, .sentinel, .pinned], laidTests := true, laidLooks := .later }
def ClockMeetsUptoCardSaid : Prop := Claim7.holds Tryz.pinned (.plain (OpenSpec.upto clockMeetsSpec)) clockMeetsUptoCard

/-- THE SECOND FORM's CARD OF 'luminairelaw23.ClockKeeps'. -/
def clockKeepsUptoCard : Claim7 := { stood := { row := clockKeepsUptoRow, standIns := [], harness := (true, "32dbe2ffcb0679d02eef48c850b3c0d1eb70430c09367cfa21632ab13ee1693e"), looks := true }, kinds := [], alts := [], laidByText := true, laidKinds := [.data, .data, .data, .data, .sentinel, .sentinel, .pinned], laidTests := true, laidLooks := .later }
def ClockKeepsUptoCardSaid : Prop := Claim7.holds Tryz.pinned (.plain (OpenSpec.upto clockKeepsSpec)) clockKeepsUptoCard

/-- THE SECOND FORM's CARD OF 'luminairelaw23.ClockTurns'. -/
def clockTurnsUptoCard : Claim7 := { stood := { row := clockTurnsUptoRow, standIns := [], harness := (true, "32dbe2ffcb0679d02eef48c850b3c0d1eb70430c09367cfa21632ab13ee1693e"), looks := true }, kinds := [], alts := [], laidByText := true, laidKinds := [.data, .data, .data, .data, .sentinel, .sentinel, .pinned], laidTests := true, laidLooks := .later }
def ClockTurnsUptoCardSaid : Prop := Claim7.holds Tryz.pinned (.plain (OpenSpec.upto clockTurnsSpec)) clockTurnsUptoCard

/-- THE SECOND FORM's CARD OF 'luminairelaw23.ClockComes'. -/
def clockComesUptoCard : Claim7 := { stood := { row := clockComesUptoRow, standIns := [], harness := (true, "32dbe2ffcb0679d02eef48c850b3c0d1eb70430c09367cfa21632ab13ee1693e"), looks := true }, kinds := [], alts := [], laidByText := true, laidKinds := [.data, .data, .data, .data, .sentinel, .sentinel, .pinned], laidTests := true, laidLooks := .later }
def ClockComesUptoCardSaid : Prop := Claim7.holds Tryz.pinned (.plain (OpenSpec.upto clockComesSpec)) clockComesUptoCard

/-- THE SECOND FORM's CARD OF 'luminairelaw02.RatioComputes'. -/
def ratioComputesUptoCard : Claim7 := { stood := { row := ratioComputesUptoRow, standIns := [], harness := (true, "32dbe2ffcb0679d02eef48c850b3c0d1eb70430c09367cfa21632ab13ee1693e"), looks := true }, kinds := [], alts := [], laidByText := true, laidKinds := [.data, .data, .data, .data, .sentinel, .sentinel, .pinned], laidTests := true, laidLooks := .later }
def RatioComputesUptoCardSaid : Prop := Claim7.holds Tryz.pinned (.plain (OpenSpec.upto ratioComputesSpec)) ratioComputesUptoCard

/-- THE SECOND FORM's CARD OF 'luminairelaw02.RatioLimits'. -/
def ratioLimitsUptoCard : Claim7 := { stood := { row := ratioLimitsUptoRow, standIns := [], harness := (true, "32dbe2ffcb0679d02eef48c850b3c0d1eb70430c09367cfa21632ab13ee1693e"), looks := true }, kinds := [], alts := [], laidByText := true, laidKinds := [.data, .data, .data, .data, .sentinel, .sentinel, .pinned], laidTests := true, laidLooks := .later }
def RatioLimitsUptoCardSaid : Prop := Claim7.holds Tryz.pinned (.plain (OpenSpec.upto ratioLimitsSpec)) ratioLimitsUptoCard

/-- THE SECOND FORM's CARD OF 'luminairelaw02.RatioMixes'. -/
def ratioMixesUptoCard : Claim7 := { stood := { row := ratioMixesUptoRow, standIns := [], harness := (true, "32dbe2ffcb0679d02eef48c850b3c0d1eb70430c09367cfa21632ab13ee1693e"), looks := true }, kinds := [], alts := [], laidByText := true, laidKinds := [.data, .data, .data, .data, .sentinel, .sentinel, .pinned], laidTests := true, laidLooks := .later }
def RatioMixesUptoCardSaid : Prop := Claim7.holds Tryz.pinned (.plain (OpenSpec.upto ratioMixesSpec)) ratioMixesUptoCard

/-- THE SECOND FORM's CARD OF 'luminairelaw02.RatioClamps'. -/
def ratioClampsUptoCard : Claim7 := { stood := { row := ratioClampsUptoRow, standIns := [], harness := (true, "32dbe2ffcb0679d02eef48c850b3c0d1eb70430c09367cfa21632ab13ee1693e"), looks := true }, kinds := [], alts := [], laidByText := true, laidKinds := [.data, .data, .data, .data, .sentinel, .sentinel, .pinned], laidTests := true, laidLooks := .later }
def RatioClampsUptoCardSaid : Prop := Claim7.holds Tryz.pinned (.plain (OpenSpec.upto ratioClampsSpec)) ratioClampsUptoCard

/-- THE SECOND FORM's CARD OF 'luminairelaw02.RatioField'. -/
def ratioFieldUptoCard : Claim7 := { stood := { row := ratioFieldUptoRow, standIns := [], harness := (true, "32dbe2ffcb0679d02eef48c850b3c0d1eb70430c09367cfa21632ab13ee1693e"), looks := true }, kinds := [], alts := [], laidByText := true, laidKinds := [.data, .data, .data, .data, .sentinel, .sentinel, .pinned], laidTests := true, laidLooks := .later }
def RatioFieldUptoCardSaid : Prop := Claim7.holds Tryz.pinned (.plain (OpenSpec.upto ratioFieldSpec)) ratioFieldUptoCard

/-- THE SECOND FORM's CARD OF 'luminairelaw02.RatioNeighbours'. -/
def ratioNeighboursUptoCard : Claim7 := { stood := { row := ratioNeighboursUptoRow, standIns := [], harness := (true, "32dbe2ffcb0679d02eef48c850b3c0d1eb70430c09367cfa21632ab13ee1693e"), looks := true }, kinds := [], alts := [], laidByText := true, laidKinds := [.data, .data, .data, .data, .sentinel, .sentinel, .pinned], laidTests := true, laidLooks := .later }
def RatioNeighboursUptoCardSaid : Prop := Claim7.holds Tryz.pinned (.plain (OpenSpec.upto ratioNeighboursSpec)) ratioNeighboursUptoCard

/-- THE SECOND FORM's CARD OF 'luminairelaw02.RatioBetween'. -/
def ratioBetweenUptoCard : Claim7 := { stood := { row := ratioBetweenUptoRow, standIns := [], harness := (true, "32dbe2ffcb0679d02eef48c850b3c0d1eb70430c09367cfa21632ab13ee1693e"), looks := true }, kinds := [], alts := [], laidByText := true, laidKinds := [.data, .data, .data, .data, .sentinel, .sentinel, .pinned], laidTests := true, laidLooks := .later }
def RatioBetweenUptoCardSaid : Prop := Claim7.holds Tryz.pinned (.plain (OpenSpec.upto ratioBetweenSpec)) ratioBetweenUptoCard

/-- THE SECOND FORM's CARD OF 'luminairelaw02.RatioMakes'. -/
def ratioMakesUptoCard : Claim7 := { stood := { row := ratioMakesUptoRow, standIns := [], harness := (true, "32dbe2ffcb0679d02eef48c850b3c0d1eb70430c09367cfa21632ab13ee1693e"), looks := true }, kinds := [], alts := [], laidByText := true, laidKinds := [.data, .data, .data, .data, .sentinel, .sentinel, .pinned], laidTests := true, laidLooks := .later }
def RatioMakesUptoCardSaid : Prop := Claim7.holds Tryz.pinned (.plain (OpenSpec.upto ratioMakesSpec)) ratioMakesUptoCard

/-- THE SECOND FORM's CARD OF 'luminairelaw02.RatioRounds'. -/
def ratioRoundsUptoCard : Claim7 := { stood := { row := ratioRoundsUptoRow, standIns := [], harness := (true, "32dbe2ffcb0679d02eef48c850b3c0d1eb70430c09367cfa21632ab13ee1693e"), looks := true }, kinds := [], alts := [], laidByText := true, laidKinds := [.data, .data, .data, .data, .sentinel, .sentinel, .pinned], laidTests := true, laidLooks := .later }
def RatioRoundsUptoCardSaid : Prop := Claim7.holds Tryz.pinned (.plain (OpenSpec.upto ratioRoundsSpec)) ratioRoundsUptoCard
end Rows
end Go.Proofs.YtnjaikomoljmjaaGreatDoor
