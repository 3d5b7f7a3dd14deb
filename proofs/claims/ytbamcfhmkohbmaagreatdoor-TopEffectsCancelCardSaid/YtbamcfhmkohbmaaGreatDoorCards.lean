/-
  DERIVED. GIVEN WITH THE SEED: THE CARDS: each row of YtbamcfhmkohbmaaGreatDoorRows.lean that lists a variable, with what it lists TIED to the program's text (the seventh form; the later family's looks); each row that meets fmt, with fmt's text TOLD by the authors' own Lean function (tested against real Go, not proved from fmt's source: count such statements apart). THE CARD IS WHAT COUNTS. Prove the row's statement (the work); the ties are given (YtbamcfhmkohbmaaGreatDoorTie.lean); close each card by the builder's one call (the guide's Derived/Test/ToyasCard.lean, 'card_holds'). Laid BY PROGRAM, IN A SANDBOX (cutbox-door.mjs). By AI agents, Wed Nov 11 2026. No macro, syntax, notation, axiom, sorry.
-/
import Derived.Test.YtbamcfhmkohbmaaGreatDoorRows
import GoSem.ClaimSeven
namespace Go.Proofs.YtbamcfhmkohbmaaGreatDoor
namespace Rows

/-- THE TIED CARD OF 'luminairelaw27.WaveTidies'. -/
def waveTidiesCard : Claim7 := { stood := { row := waveTidiesRow, standIns := [], harness := (true, "eacf7bcb383cbd273525a6431b715651de48ff5872a4eb725d8197279f4e671a"), looks := true }, kinds := [], alts := [], laidByText := true, laidKinds := [.data, .data, .data, .data, .sentinel, .sentinel, .pinned], laidTests := true, laidLooks := .later }
def WaveTidiesCardSaid : Prop := Claim7.holds Tryz.pinned (.plain (OpenSpec.ofChange waveTidiesSpec)) waveTidiesCard

/-- THE TIED CARD OF 'luminairelaw28.EffectPeriods'. -/
def effectPeriodsCard : Claim7 := { stood := { row := effectPeriodsRow, standIns := [], harness := (true, "eacf7bcb383cbd273525a6431b715651de48ff5872a4eb725d8197279f4e671a"), looks := true }, kinds := [], alts := [], laidByText := true, laidKinds := [.data, .data, .data, .data, .sentinel, .sentinel, .pinned], laidTests := true, laidLooks := .later }
def EffectPeriodsCardSaid : Prop := Claim7.holds Tryz.pinned (.plain (OpenSpec.ofChange effectPeriodsSpec)) effectPeriodsCard

/-- THE TIED CARD OF 'luminairelaw28.EffectSpreads'. -/
def effectSpreadsCard : Claim7 := { stood := { row := effectSpreadsRow, standIns := [], harness := (true, "eacf7bcb383cbd273525a6431b715651de48ff5872a4eb725d8197279f4e671a"), looks := true }, kinds := [], alts := [], laidByText := true, laidKinds := [.data, .data, .data, .data, .sentinel, .sentinel, .pinned], laidTests := true, laidLooks := .later }
def EffectSpreadsCardSaid : Prop := Claim7.holds Tryz.pinned (.plain (OpenSpec.ofChange effectSpreadsSpec)) effectSpreadsCard

/-- THE TIED CARD OF 'luminairelaw28.EffectTurns'. -/
def effectTurnsCard : Claim7 := { stood := { row := effectTurnsRow, standIns := [], harness := (true, "eacf7bcb383cbd273525a6431b715651de48ff5872a4eb725d8197279f4e671a"), looks := true }, kinds := [], alts := [], laidByText := true, laidKinds := [.data, .data, .data, .data, .sentinel, .sentinel, .pinned], laidTests := true, laidLooks := .later }
def EffectTurnsCardSaid : Prop := Claim7.holds Tryz.pinned (.plain (OpenSpec.ofChange effectTurnsSpec)) effectTurnsCard

/-- THE TIED CARD OF 'luminairelaw28.EffectOffsets'. -/
def effectOffsetsCard : Claim7 := { stood := { row := effectOffsetsRow, standIns := [], harness := (true, "eacf7bcb383cbd273525a6431b715651de48ff5872a4eb725d8197279f4e671a"), looks := true }, kinds := [], alts := [], laidByText := true, laidKinds := [.data, .data, .data, .data, .sentinel, .sentinel, .pinned], laidTests := true, laidLooks := .later }
def EffectOffsetsCardSaid : Prop := Claim7.holds Tryz.pinned (.plain (OpenSpec.ofChange effectOffsetsSpec)) effectOffsetsCard

/-- THE TIED CARD OF 'luminairelaw28.EffectRuns'. -/
def effectRunsCard : Claim7 := { stood := { row := effectRunsRow, standIns := [], harness := (true, "eacf7bcb383cbd273525a6431b715651de48ff5872a4eb725d8197279f4e671a"), looks := true }, kinds := [], alts := [], laidByText := true, laidKinds := [.data, .data, .data, .data, .sentinel, .sentinel, .pinned], laidTests := true, laidLooks := .later }
def EffectRunsCardSaid : Prop := Claim7.holds Tryz.pinned (.plain (OpenSpec.ofChange effectRunsSpec)) effectRunsCard

/-- THE TIED CARD OF 'luminairelaw28.EffectSums'. -/
def effectSumsCard : Claim7 := { stood := { row := effectSumsRow, standIns := [], harness := (true, "eacf7bcb383cbd273525a6431b715651de48ff5872a4eb725d8197279f4e671a"), looks := true }, kinds := [], alts := [], laidByText := true, laidKinds := [.data, .data, .data, .data, .sentinel, .sentinel, .pinned], laidTests := true, laidLooks := .later }
def EffectSumsCardSaid : Prop := Claim7.holds Tryz.pinned (.plain (OpenSpec.ofChange effectSumsSpec)) effectSumsCard

/-- THE TIED CARD OF 'luminairelaw28.EffectAdds'. -/
def effectAddsCard : Claim7 := { stood := { row := effectAddsRow, standIns := [], harness := (true, "eacf7bcb383cbd273525a6431b715651de48ff5872a4eb725d8197279f4e671a"), looks := true }, kinds := [], alts := [], laidByText := true, laidKinds := [.data, .data, .data, .data, .sentinel, .sentinel, .pinned], laidTests := true, laidLooks := .later }
def EffectAddsCardSaid : Prop := Claim7.holds Tryz.pinned (.plain (OpenSpec.ofChange effectAddsSpec)) effectAddsCard

/-- THE TIED CARD OF 'luminairetop.TopEffectsPeriods'. -/
def topEffectsPeriodsCard : Claim7 := { stood := { row := topEffectsPeriodsRow, standIns := [], harness := (true, "eacf7bcb383cbd273525a6431b715651de48ff5872a4eb725d8197279f4e671a"), looks := true }, kinds := [], alts := [], laidByText := true, laidKinds := [.data, .data, .data, .data, .sentinel, .sentinel, .pinned], laidTests := true, laidLooks := .later }
def TopEffectsPeriodsCardSaid : Prop := Claim7.holds Tryz.pinned (.plain (OpenSpec.ofChange topEffectsPeriodsSpec)) topEffectsPeriodsCard

/-- THE TIED CARD OF 'luminairetop.TopEffectsChase'. -/
def topEffectsChaseCard : Claim7 := { stood := { row := topEffectsChaseRow, standIns := [], harness := (true, "eacf7bcb383cbd273525a6431b715651de48ff5872a4eb725d8197279f4e671a"), looks := true }, kinds := [], alts := [], laidByText := true, laidKinds := [.data, .data, .data, .data, .sentinel, .sentinel, .pinned], laidTests := true, laidLooks := .later }
def TopEffectsChaseCardSaid : Prop := Claim7.holds Tryz.pinned (.plain (OpenSpec.ofChange topEffectsChaseSpec)) topEffectsChaseCard

/-- THE TIED CARD OF 'luminairetop.TopEffectsCancel'. -/
def topEffectsCancelCard : Claim7 := { stood := { row := topEffectsCancelRow, standIns := [], harness := (true, "eacf7bcb383cbd273525a6431b715651de48ff5872a4eb725d8197279f4e671a"), looks := true }, kinds := [], alts := [], laidByText := true, laidKinds := [.data, .data, .data, .data, .sentinel, .sentinel, .pinned], laidTests := true, laidLooks := .later }
def TopEffectsCancelCardSaid : Prop := Claim7.holds Tryz.pinned (.plain (OpenSpec.ofChange topEffectsCancelSpec)) topEffectsCancelCard

/-- THE SECOND FORM's CARD OF 'luminairelaw27.WaveTidies'. -/
def waveTidiesUptoCard : Claim7 := { stood := { row := waveTidiesUptoRow, standIns := [], harness := (true, "eacf7bcb383cbd273525a6431b715651de48ff5872a4eb725d8197279f4e671a"), looks := true }, kinds := [], alts := [], laidByText := true, laidKinds := [.data, .data, .data, .data, .sentinel, .sentinel, .pinned], laidTests := true, laidLooks := .later }
def WaveTidiesUptoCardSaid : Prop := Claim7.holds Tryz.pinned (.plain (OpenSpec.upto waveTidiesSpec)) waveTidiesUptoCard

/-- THE SECOND FORM's CARD OF 'luminairelaw28.EffectPeriods'. -/
def effectPeriodsUptoCard : Claim7 := { stood := { row := effectPeriodsUptoRow, standIns := [], harness := (true, "eacf7bcb383cbd273525a6431b715651de48ff5872a4eb725d8197279f4e671a"), looks := true }, kinds := [], alts := [], laidByText := true, laidKinds := [.data, .data, .data, .data, .sentinel, .sentinel, .pinned], laidTests := true, laidLooks := .later }
def EffectPeriodsUptoCardSaid : Prop := Claim7.holds Tryz.pinned (.plain (OpenSpec.upto effectPeriodsSpec)) effectPeriodsUptoCard

/-- THE SECOND FORM's CARD OF 'luminairelaw28.EffectSpreads'. -/
def effectSpreadsUptoCard : Claim7 := { stood := { row := effectSpreadsUptoRow, standIns := [], harness := (true, "eacf7bcb383cbd273525a6431b715651de48ff5872a4eb725d8197279f4e671a"), looks := true }, kinds := [], alts := [], laidByText := true, laidKinds := [.data, .data, .data, .data, .sentinel, .sentinel, .pinned], laidTests := true, laidLooks := .later }
def EffectSpreadsUptoCardSaid : Prop := Claim7.holds Tryz.pinned (.plain (OpenSpec.upto effectSpreadsSpec)) effectSpreadsUptoCard

/-- THE SECOND FORM's CARD OF 'luminairelaw28.EffectTurns'. -/
def effectTurnsUptoCard : Claim7 := { stood := { row := effectTurnsUptoRow, standIns := [], harness := (true, "eacf7bcb383cbd273525a6431b715651de48ff5872a4eb725d8197279f4e671a"), looks := true }, kinds := [], alts := [], laidByText := true, laidKinds := [.data, .data, .data, .data, .sentinel, .sentinel, .pinned], laidTests := true, laidLooks := .later }
def EffectTurnsUptoCardSaid : Prop := Claim7.holds Tryz.pinned (.plain (OpenSpec.upto effectTurnsSpec)) effectTurnsUptoCard

/-- THE SECOND FORM's CARD OF 'luminairelaw28.EffectOffsets'. -/
def effectOffsetsUptoCard : Claim7 := { stood := { row := effectOffsetsUptoRow, standIns := [], harness := (true, "eacf7bcb383cbd273525a6431b715651de48ff5872a4eb725d8197279f4e671a"), looks := true }, kinds := [], alts := [], laidByText := true, laidKinds := [.data, .data, .data, .data, .sentinel, .sentinel, .pinned], laidTests := true, laidLooks := .later }
def EffectOffsetsUptoCardSaid : Prop := Claim7.holds Tryz.pinned (.plain (OpenSpec.upto effectOffsetsSpec)) effectOffsetsUptoCard

/-- THE SECOND FORM's CARD OF 'luminairelaw28.EffectRuns'. -/
def effectRunsUptoCard : Claim7 := { stood := { row := effectRunsUptoRow, standIns := [], harness := (true, "eacf7bcb383cbd273525a6431b715651de48ff5872a4eb725d8197279f4e671a"), looks := true }, kinds := [], alts := [], laidByText := true, laidKinds := [.data, .data, .data, .data, .sentinel, .sentinel, .pinned], laidTests := true, laidLooks := .later }
def EffectRunsUptoCardSaid : Prop := Claim7.holds Tryz.pinned (.plain (OpenSpec.upto effectRunsSpec)) effectRunsUptoCard

/-- THE SECOND FORM's CARD OF 'luminairelaw28.EffectSums'. -/
def effectSumsUptoCard : Claim7 := { stood := { row := effectSumsUptoRow, standIns := [], harness := (true, "eacf7bcb383cbd273525a6431b715651de48ff5872a4eb725d8197279f4e671a"), looks := true }, kinds := [], alts := [], laidByText := true, laidKinds := [.data, .data, .data, .data, .sentinel, .sentinel, .pinned], laidTests := true, laidLooks := .later }
def EffectSumsUptoCardSaid : Prop := Claim7.holds Tryz.pinned (.plain (OpenSpec.upto effectSumsSpec)) effectSumsUptoCard

/-- THE SECOND FORM's CARD OF 'luminairelaw28.EffectAdds'. -/
def effectAddsUptoCard : Claim7 := { stood := { row := effectAddsUptoRow, standIns := [], harness := (true, "eacf7bcb383cbd273525a6431b715651de48ff5872a4eb725d8197279f4e671a"), looks := true }, kinds := [], alts := [], laidByText := true, laidKinds := [.data, .data, .data, .data, .sentinel, .sentinel, .pinned], laidTests := true, laidLooks := .later }
def EffectAddsUptoCardSaid : Prop := Claim7.holds Tryz.pinned (.plain (OpenSpec.upto effectAddsSpec)) effectAddsUptoCard

/-- THE SECOND FORM's CARD OF 'luminairetop.TopEffectsPeriods'. -/
def topEffectsPeriodsUptoCard : Claim7 := { stood := { row := topEffectsPeriodsUptoRow, standIns := [], harness := (true, "eacf7bcb383cbd273525a6431b715651de48ff5872a4eb725d8197279f4e671a"), looks := true }, kinds := [], alts := [], laidByText := true, laidKinds := [.data, .data, .data, .data, .sentinel, .sentinel, .pinned], laidTests := true, laidLooks := .later }
def TopEffectsPeriodsUptoCardSaid : Prop := Claim7.holds Tryz.pinned (.plain (OpenSpec.upto topEffectsPeriodsSpec)) topEffectsPeriodsUptoCard

/-- THE SECOND FORM's CARD OF 'luminairetop.TopEffectsChase'. -/
def topEffectsChaseUptoCard : Claim7 := { stood := { row := topEffectsChaseUptoRow, standIns := [], harness := (true, "eacf7bcb383cbd273525a6431b715651de48ff5872a4eb725d8197279f4e671a"), looks := true }, kinds := [], alts := [], laidByText := true, laidKinds := [.data, .data, .data, .data, .sentinel, .sentinel, .pinned], laidTests := true, laidLooks := .later }
def TopEffectsChaseUptoCardSaid : Prop := Claim7.holds Tryz.pinned (.plain (OpenSpec.upto topEffectsChaseSpec)) topEffectsChaseUptoCard

/-- THE SECOND FORM's CARD OF 'luminairetop.TopEffectsCancel'. -/
def topEffectsCancelUptoCard : Claim7 := { stood := { row := topEffectsCancelUptoRow, standIns := [], harness := (true, "eacf7bcb383cbd273525a6431b715651de48ff5872a4eb725d8197279f4e671a"), looks := true }, kinds := [], alts := [], laidByText := true, laidKinds := [.data, .data, .data, .data, .sentinel, .sentinel, .pinned], laidTests := true, laidLooks := .later }
def TopEffectsCancelUptoCardSaid : Prop := Claim7.holds Tryz.pinned (.plain (OpenSpec.upto topEffectsCancelSpec)) topEffectsCancelUptoCard
end Rows
end Go.Proofs.YtbamcfhmkohbmaaGreatDoor
