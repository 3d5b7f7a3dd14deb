/-
  DERIVED. GIVEN WITH THE SEED: THE CARDS: each row of YtjfhebpfnegcjaaGreatDoorRows.lean that lists a variable, with what it lists TIED to the program's text (the seventh form; the later family's looks); each row that meets fmt, with fmt's text TOLD by the authors' own Lean function (tested against real Go, not proved from fmt's source: count such statements apart). THE CARD IS WHAT COUNTS. Prove the row's statement (the work); the ties are given (YtjfhebpfnegcjaaGreatDoorTie.lean); close each card by the builder's one call (the guide's Derived/Test/ToyasCard.lean, 'card_holds'). Laid BY PROGRAM, IN A SANDBOX (cutbox-door.mjs). By AI agents, Wed Nov 11 2026. No macro, syntax, notation, axiom, sorry.
-/
import Derived.Test.YtjfhebpfnegcjaaGreatDoorRows
import GoSem.ClaimSeven
namespace Go.Proofs.YtjfhebpfnegcjaaGreatDoor
namespace Rows

/-- THE TIED CARD OF 'luminairelaw27.WaveRamps'. -/
def waveRampsCard : Claim7 := { stood := { row := waveRampsRow, standIns := [], harness := (true, "f91582e7f3127708ac8fad181cadd822566a1fac7fe94ed35cb820399c52c1e0"), looks := true }, kinds := [], alts := [], laidByText := true, laidKinds := [.data, .data, .data, .data, .sentinel, .sentinel, .pinned], laidTests := true, laidLooks := .later }
def WaveRampsCardSaid : Prop := Claim7.holds Tryz.pinned (.plain (OpenSpec.ofChange waveRampsSpec)) waveRampsCard

/-- THE TIED CARD OF 'luminairelaw27.WaveReads'. -/
def waveReadsCard : Claim7 := { stood := { row := waveReadsRow, standIns := [], harness := (true, "f91582e7f3127708ac8fad181cadd822566a1fac7fe94ed35cb820399c52c1e0"), looks := true }, kinds := [], alts := [], laidByText := true, laidKinds := [.data, .data, .data, .data, .sentinel, .sentinel, .pinned], laidTests := true, laidLooks := .later }
def WaveReadsCardSaid : Prop := Claim7.holds Tryz.pinned (.plain (OpenSpec.ofChange waveReadsSpec)) waveReadsCard

/-- THE TIED CARD OF 'luminairelaw27.WaveRepeats'. -/
def waveRepeatsCard : Claim7 := { stood := { row := waveRepeatsRow, standIns := [], harness := (true, "f91582e7f3127708ac8fad181cadd822566a1fac7fe94ed35cb820399c52c1e0"), looks := true }, kinds := [], alts := [], laidByText := true, laidKinds := [.data, .data, .data, .data, .sentinel, .sentinel, .pinned], laidTests := true, laidLooks := .later }
def WaveRepeatsCardSaid : Prop := Claim7.holds Tryz.pinned (.plain (OpenSpec.ofChange waveRepeatsSpec)) waveRepeatsCard

/-- THE TIED CARD OF 'luminairelaw27.WaveTidies'. -/
def waveTidiesCard : Claim7 := { stood := { row := waveTidiesRow, standIns := [], harness := (true, "f91582e7f3127708ac8fad181cadd822566a1fac7fe94ed35cb820399c52c1e0"), looks := true }, kinds := [], alts := [], laidByText := true, laidKinds := [.data, .data, .data, .data, .sentinel, .sentinel, .pinned], laidTests := true, laidLooks := .later }
def WaveTidiesCardSaid : Prop := Claim7.holds Tryz.pinned (.plain (OpenSpec.ofChange waveTidiesSpec)) waveTidiesCard

/-- THE TIED CARD OF 'luminairelaw27.WaveChanges'. -/
def waveChangesCard : Claim7 := { stood := { row := waveChangesRow, standIns := [], harness := (true, "f91582e7f3127708ac8fad181cadd822566a1fac7fe94ed35cb820399c52c1e0"), looks := true }, kinds := [], alts := [], laidByText := true, laidKinds := [.data, .data, .data, .data, .sentinel, .sentinel, .pinned], laidTests := true, laidLooks := .later }
def WaveChangesCardSaid : Prop := Claim7.holds Tryz.pinned (.plain (OpenSpec.ofChange waveChangesSpec)) waveChangesCard

/-- THE TIED CARD OF 'luminairelaw27.WaveTurns'. -/
def waveTurnsCard : Claim7 := { stood := { row := waveTurnsRow, standIns := [], harness := (true, "f91582e7f3127708ac8fad181cadd822566a1fac7fe94ed35cb820399c52c1e0"), looks := true }, kinds := [], alts := [], laidByText := true, laidKinds := [.data, .data, .data, .data, .sentinel, .sentinel, .pinned], laidTests := true, laidLooks := .later }
def WaveTurnsCardSaid : Prop := Claim7.holds Tryz.pinned (.plain (OpenSpec.ofChange waveTurnsSpec)) waveTurnsCard

/-- THE SECOND FORM's CARD OF 'luminairelaw27.WaveRamps'. -/
def waveRampsUptoCard : Claim7 := { stood := { row := waveRampsUptoRow, standIns := [], harness := (true, "f91582e7f3127708ac8fad181cadd822566a1fac7fe94ed35cb820399c52c1e0"), looks := true }, kinds := [], alts := [], laidByText := true, laidKinds := [.data, .data, .data, .data, .sentinel, .sentinel, .pinned], laidTests := true, laidLooks := .later }
def WaveRampsUptoCardSaid : Prop := Claim7.holds Tryz.pinned (.plain (OpenSpec.upto waveRampsSpec)) waveRampsUptoCard

/-- THE SECOND FORM's CARD OF 'luminairelaw27.WaveReads'. -/
def waveReadsUptoCard : Claim7 := { stood := { row := waveReadsUptoRow, standIns := [], harness := (true, "f91582e7f3127708ac8fad181cadd822566a1fac7fe94ed35cb820399c52c1e0"), looks := true }, kinds := [], alts := [], laidByText := true, laidKinds := [.data, .data, .data, .data, .sentinel, .sentinel, .pinned], laidTests := true, laidLooks := .later }
def WaveReadsUptoCardSaid : Prop := Claim7.holds Tryz.pinned (.plain (OpenSpec.upto waveReadsSpec)) waveReadsUptoCard

/-- THE SECOND FORM's CARD OF 'luminairelaw27.WaveRepeats'. -/
def waveRepeatsUptoCard : Claim7 := { stood := { row := waveRepeatsUptoRow, standIns := [], harness := (true, "f91582e7f3127708ac8fad181cadd822566a1fac7fe94ed35cb820399c52c1e0"), looks := true }, kinds := [], alts := [], laidByText := true, laidKinds := [.data, .data, .data, .data, .sentinel, .sentinel, .pinned], laidTests := true, laidLooks := .later }
def WaveRepeatsUptoCardSaid : Prop := Claim7.holds Tryz.pinned (.plain (OpenSpec.upto waveRepeatsSpec)) waveRepeatsUptoCard

/-- THE SECOND FORM's CARD OF 'luminairelaw27.WaveTidies'. -/
def waveTidiesUptoCard : Claim7 := { stood := { row := waveTidiesUptoRow, standIns := [], harness := (true, "f91582e7f3127708ac8fad181cadd822566a1fac7fe94ed35cb820399c52c1e0"), looks := true }, kinds := [], alts := [], laidByText := true, laidKinds := [.data, .data, .data, .data, .sentinel, .sentinel, .pinned], laidTests := true, laidLooks := .later }
def WaveTidiesUptoCardSaid : Prop := Claim7.holds Tryz.pinned (.plain (OpenSpec.upto waveTidiesSpec)) waveTidiesUptoCard

/-- THE SECOND FORM's CARD OF 'luminairelaw27.WaveChanges'. -/
def waveChangesUptoCard : Claim7 := { stood := { row := waveChangesUptoRow, standIns := [], harness := (true, "f91582e7f3127708ac8fad181cadd822566a1fac7fe94ed35cb820399c52c1e0"), looks := true }, kinds := [], alts := [], laidByText := true, laidKinds := [.data, .data, .data, .data, .sentinel, .sentinel, .pinned], laidTests := true, laidLooks := .later }
def WaveChangesUptoCardSaid : Prop := Claim7.holds Tryz.pinned (.plain (OpenSpec.upto waveChangesSpec)) waveChangesUptoCard

/-- THE SECOND FORM's CARD OF 'luminairelaw27.WaveTurns'. -/
def waveTurnsUptoCard : Claim7 := { stood := { row := waveTurnsUptoRow, standIns := [], harness := (true, "f91582e7f3127708ac8fad181cadd822566a1fac7fe94ed35cb820399c52c1e0"), looks := true }, kinds := [], alts := [], laidByText := true, laidKinds := [.data, .data, .data, .data, .sentinel, .sentinel, .pinned], laidTests := true, laidLooks := .later }
def WaveTurnsUptoCardSaid : Prop := Claim7.holds Tryz.pinned (.plain (OpenSpec.upto waveTurnsSpec)) waveTurnsUptoCard
end Rows
end Go.Proofs.YtjfhebpfnegcjaaGreatDoor
