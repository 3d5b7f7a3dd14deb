/-
  DERIVED. GIVEN WITH THE SEED: THE CARDS: each row of YtknlohmkachbmaaGreatDoorRows.lean that lists a variable, with what it lists TIED to the program's text (the seventh form; the later family's looks); each row that meets fmt, with fmt's text TOLD by the authors' own Lean function (tested against real Go, not proved from fmt's source: count such statements apart). THE CARD IS WHAT COUNTS. Prove the row's statement (the work); the ties are given (YtknlohmkachbmaaGreatDoorTie.lean); close each card by the builder's one call (the guide's Derived/Test/ToyasCard.lean, 'card_holds'). Laid BY PROGRAM, IN A SANDBOX (cutbox-door.mjs). By AI agents, Wed Nov 11 2026. No macro, syntax, notation, axiom, sorry.
-/
import Derived.Test.YtknlohmkachbmaaGreatDoorRows
import GoSem.ClaimSeven
namespace Go.Proofs.YtknlohmkachbmaaGreatDoor
namespace Rows

/-- THE TIED CARD OF 'luminairelaw29.ProgrammerLevels'. -/
def programmerLevelsCard : Claim7 := { stood := { row := programmerLevelsRow, standIns := [], harness := (true, "b736eb26346621ba68926fe1f4c707748b0541f8d1be7acb7eeb8d48e94a80f9"), looks := true }, kinds := [], alts := [], laidByText := true, laidKinds := [.data, .data, .data, .data, .sentinel, .sentinel, .pinned], laidTests := true, laidLooks := .later }
def ProgrammerLevelsCardSaid : Prop := Claim7.holds Tryz.pinned (.plain (OpenSpec.ofChange programmerLevelsSpec)) programmerLevelsCard

/-- THE TIED CARD OF 'luminairelaw29.ProgrammerClears'. -/
def programmerClearsCard : Claim7 := { stood := { row := programmerClearsRow, standIns := [], harness := (true, "b736eb26346621ba68926fe1f4c707748b0541f8d1be7acb7eeb8d48e94a80f9"), looks := true }, kinds := [], alts := [], laidByText := true, laidKinds := [.data, .data, .data, .data, .sentinel, .sentinel, .pinned], laidTests := true, laidLooks := .later }
def ProgrammerClearsCardSaid : Prop := Claim7.holds Tryz.pinned (.plain (OpenSpec.ofChange programmerClearsSpec)) programmerClearsCard

/-- THE TIED CARD OF 'luminairelaw29.ProgrammerSets'. -/
def programmerSetsCard : Claim7 := { stood := { row := programmerSetsRow, standIns := [], harness := (true, "b736eb26346621ba68926fe1f4c707748b0541f8d1be7acb7eeb8d48e94a80f9"), looks := true }, kinds := [], alts := [], laidByText := true, laidKinds := [.data, .data, .data, .data, .sentinel, .sentinel, .pinned], laidTests := true, laidLooks := .later }
def ProgrammerSetsCardSaid : Prop := Claim7.holds Tryz.pinned (.plain (OpenSpec.ofChange programmerSetsSpec)) programmerSetsCard

/-- THE TIED CARD OF 'luminairelaw29.ProgrammerCompares'. -/
def programmerComparesCard : Claim7 := { stood := { row := programmerComparesRow, standIns := [], harness := (true, "b736eb26346621ba68926fe1f4c707748b0541f8d1be7acb7eeb8d48e94a80f9"), looks := true }, kinds := [], alts := [], laidByText := true, laidKinds := [.data, .data, .data, .data, .sentinel, .sentinel, .pinned], laidTests := true, laidLooks := .later }
def ProgrammerComparesCardSaid : Prop := Claim7.holds Tryz.pinned (.plain (OpenSpec.ofChange programmerComparesSpec)) programmerComparesCard

/-- THE TIED CARD OF 'luminairelaw29.ProgrammerKeeps'. -/
def programmerKeepsCard : Claim7 := { stood := { row := programmerKeepsRow, standIns := [], harness := (true, "b736eb26346621ba68926fe1f4c707748b0541f8d1be7acb7eeb8d48e94a80f9"), looks := true }, kinds := [], alts := [], laidByText := true, laidKinds := [.data, .data, .data, .data, .sentinel, .sentinel, .pinned], laidTests := true, laidLooks := .later }
def ProgrammerKeepsCardSaid : Prop := Claim7.holds Tryz.pinned (.plain (OpenSpec.ofChange programmerKeepsSpec)) programmerKeepsCard

/-- THE TIED CARD OF 'luminairelaw29.ProgrammerGoes'. -/
def programmerGoesCard : Claim7 := { stood := { row := programmerGoesRow, standIns := [], harness := (true, "b736eb26346621ba68926fe1f4c707748b0541f8d1be7acb7eeb8d48e94a80f9"), looks := true }, kinds := [], alts := [], laidByText := true, laidKinds := [.data, .data, .data, .data, .sentinel, .sentinel, .pinned], laidTests := true, laidLooks := .later }
def ProgrammerGoesCardSaid : Prop := Claim7.holds Tryz.pinned (.plain (OpenSpec.ofChange programmerGoesSpec)) programmerGoesCard

/-- THE TIED CARD OF 'luminairelaw29.ProgrammerForgets'. -/
def programmerForgetsCard : Claim7 := { stood := { row := programmerForgetsRow, standIns := [], harness := (true, "b736eb26346621ba68926fe1f4c707748b0541f8d1be7acb7eeb8d48e94a80f9"), looks := true }, kinds := [], alts := [], laidByText := true, laidKinds := [.data, .data, .data, .data, .sentinel, .sentinel, .pinned], laidTests := true, laidLooks := .later }
def ProgrammerForgetsCardSaid : Prop := Claim7.holds Tryz.pinned (.plain (OpenSpec.ofChange programmerForgetsSpec)) programmerForgetsCard

/-- THE TIED CARD OF 'luminairelaw29.ProgrammerChecks'. -/
def programmerChecksCard : Claim7 := { stood := { row := programmerChecksRow, standIns := [], harness := (true, "b736eb26346621ba68926fe1f4c707748b0541f8d1be7acb7eeb8d48e94a80f9"), looks := true }, kinds := [], alts := [], laidByText := true, laidKinds := [.data, .data, .data, .data, .sentinel, .sentinel, .pinned], laidTests := true, laidLooks := .later }
def ProgrammerChecksCardSaid : Prop := Claim7.holds Tryz.pinned (.plain (OpenSpec.ofChange programmerChecksSpec)) programmerChecksCard

/-- THE TIED CARD OF 'luminairetop.TopProgrammerRemembers'. -/
def topProgrammerRemembersCard : Claim7 := { stood := { row := topProgrammerRemembersRow, standIns := [], harness := (true, "b736eb26346621ba68926fe1f4c707748b0541f8d1be7acb7eeb8d48e94a80f9"), looks := true }, kinds := [], alts := [], laidByText := true, laidKinds := [.data, .data, .data, .data, .sentinel, .sentinel, .pinned], laidTests := true, laidLooks := .later }
def TopProgrammerRemembersCardSaid : Prop := Claim7.holds Tryz.pinned (.plain (OpenSpec.ofChange topProgrammerRemembersSpec)) topProgrammerRemembersCard

/-- THE SECOND FORM's CARD OF 'luminairelaw29.ProgrammerLevels'. -/
def programmerLevelsUptoCard : Claim7 := { stood := { row := programmerLevelsUptoRow, standIns := [], harness := (true, "b736eb26346621ba68926fe1f4c707748b0541f8d1be7acb7eeb8d48e94a80f9"), looks := true }, kinds := [], alts := [], laidByText := true, laidKinds := [.data, .data, .data, .data, .sentinel, .sentinel, .pinned], laidTests := true, laidLooks := .later }
def ProgrammerLevelsUptoCardSaid : Prop := Claim7.holds Tryz.pinned (.plain (OpenSpec.upto programmerLevelsSpec)) programmerLevelsUptoCard

/-- THE SECOND FORM's CARD OF 'luminairelaw29.ProgrammerClears'. -/
def programmerClearsUptoCard : Claim7 := { stood := { row := programmerClearsUptoRow, standIns := [], harness := (true, "b736eb26346621ba68926fe1f4c707748b0541f8d1be7acb7eeb8d48e94a80f9"), looks := true }, kinds := [], alts := [], laidByText := true, laidKinds := [.data, .data, .data, .data, .sentinel, .sentinel, .pinned], laidTests := true, laidLooks := .later }
def ProgrammerClearsUptoCardSaid : Prop := Claim7.holds Tryz.pinned (.plain (OpenSpec.upto programmerClearsSpec)) programmerClearsUptoCard

/-- THE SECOND FORM's CARD OF 'luminairelaw29.ProgrammerSets'. -/
def programmerSetsUptoCard : Claim7 := { stood := { row := programmerSetsUptoRow, standIns := [], harness := (true, "b736eb26346621ba68926fe1f4c707748b0541f8d1be7acb7eeb8d48e94a80f9"), looks := true }, kinds := [], alts := [], laidByText := true, laidKinds := [.data, .data, .data, .data, .sentinel, .sentinel, .pinned], laidTests := true, laidLooks := .later }
def ProgrammerSetsUptoCardSaid : Prop := Claim7.holds Tryz.pinned (.plain (OpenSpec.upto programmerSetsSpec)) programmerSetsUptoCard

/-- THE SECOND FORM's CARD OF 'luminairelaw29.ProgrammerCompares'. -/
def programmerComparesUptoCard : Claim7 := { stood := { row := programmerComparesUptoRow, standIns := [], harness := (true, "b736eb26346621ba68926fe1f4c707748b0541f8d1be7acb7eeb8d48e94a80f9"), looks := true }, kinds := [], alts := [], laidByText := true, laidKinds := [.data, .data, .data, .data, .sentinel, .sentinel, .pinned], laidTests := true, laidLooks := .later }
def ProgrammerComparesUptoCardSaid : Prop := Claim7.holds Tryz.pinned (.plain (OpenSpec.upto programmerComparesSpec)) programmerComparesUptoCard

/-- THE SECOND FORM's CARD OF 'luminairelaw29.ProgrammerKeeps'. -/
def programmerKeepsUptoCard : Claim7 := { stood := { row := programmerKeepsUptoRow, standIns := [], harness := (true, "b736eb26346621ba68926fe1f4c707748b0541f8d1be7acb7eeb8d48e94a80f9"), looks := true }, kinds := [], alts := [], laidByText := true, laidKinds := [.data, .data, .data, .data, .sentinel, .sentinel, .pinned], laidTests := true, laidLooks := .later }
def ProgrammerKeepsUptoCardSaid : Prop := Claim7.holds Tryz.pinned (.plain (OpenSpec.upto programmerKeepsSpec)) programmerKeepsUptoCard

/-- THE SECOND FORM's CARD OF 'luminairelaw29.ProgrammerGoes'. -/
def programmerGoesUptoCard : Claim7 := { stood := { row := programmerGoesUptoRow, standIns := [], harness := (true, "b736eb26346621ba68926fe1f4c707748b0541f8d1be7acb7eeb8d48e94a80f9"), looks := true }, kinds := [], alts := [], laidByText := true, laidKinds := [.data, .data, .data, .data, .sentinel, .sentinel, .pinned], laidTests := true, laidLooks := .later }
def ProgrammerGoesUptoCardSaid : Prop := Claim7.holds Tryz.pinned (.plain (OpenSpec.upto programmerGoesSpec)) programmerGoesUptoCard

/-- THE SECOND FORM's CARD OF 'luminairelaw29.ProgrammerForgets'. -/
def programmerForgetsUptoCard : Claim7 := { stood := { row := programmerForgetsUptoRow, standIns := [], harness := (true, "b736eb26346621ba68926fe1f4c707748b0541f8d1be7acb7eeb8d48e94a80f9"), looks := true }, kinds := [], alts := [], laidByText := true, laidKinds := [.data, .data, .data, .data, .sentinel, .sentinel, .pinned], laidTests := true, laidLooks := .later }
def ProgrammerForgetsUptoCardSaid : Prop := Claim7.holds Tryz.pinned (.plain (OpenSpec.upto programmerForgetsSpec)) programmerForgetsUptoCard

/-- THE SECOND FORM's CARD OF 'luminairelaw29.ProgrammerChecks'. -/
def programmerChecksUptoCard : Claim7 := { stood := { row := programmerChecksUptoRow, standIns := [], harness := (true, "b736eb26346621ba68926fe1f4c707748b0541f8d1be7acb7eeb8d48e94a80f9"), looks := true }, kinds := [], alts := [], laidByText := true, laidKinds := [.data, .data, .data, .data, .sentinel, .sentinel, .pinned], laidTests := true, laidLooks := .later }
def ProgrammerChecksUptoCardSaid : Prop := Claim7.holds Tryz.pinned (.plain (OpenSpec.upto programmerChecksSpec)) programmerChecksUptoCard

/-- THE SECOND FORM's CARD OF 'luminairetop.TopProgrammerRemembers'. -/
def topProgrammerRemembersUptoCard : Claim7 := { stood := { row := topProgrammerRemembersUptoRow, standIns := [], harness := (true, "b736eb26346621ba68926fe1f4c707748b0541f8d1be7acb7eeb8d48e94a80f9"), looks := true }, kinds := [], alts := [], laidByText := true, laidKinds := [.data, .data, .data, .data, .sentinel, .sentinel, .pinned], laidTests := true, laidLooks := .later }
def TopProgrammerRemembersUptoCardSaid : Prop := Claim7.holds Tryz.pinned (.plain (OpenSpec.upto topProgrammerRemembersSpec)) topProgrammerRemembersUptoCard
end Rows
end Go.Proofs.YtknlohmkachbmaaGreatDoor
