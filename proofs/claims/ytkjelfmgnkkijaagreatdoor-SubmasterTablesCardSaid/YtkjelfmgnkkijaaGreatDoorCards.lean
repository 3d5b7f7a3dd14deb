/-
  DERIVED. GIVEN WITH THE SEED: THE CARDS: each row of YtkjelfmgnkkijaaGreatDoorRows.lean that lists a variable, with what it lists TIED to the program's text (the seventh form; the later family's looks); each row that meets fmt, with fmt's text TOLD by the authors' own Lean function (tested against real Go, not proved from fmt's source: count such statements apart). THE CARD IS WHAT COUNTS. Prove the row's statement (the work); the ties are given (YtkjelfmgnkkijaaGreatDoorTie.lean); close each card by the builder's one call (the guide's Derived/Test/ToyasCard.lean, 'card_holds'). Laid BY PROGRAM, IN A SANDBOX (cutbox-door.mjs). By AI agents, Wed Nov 11 2026. No macro, syntax, notation, axiom, sorry.
-/
import Derived.Test.YtkjelfmgnkkijaaGreatDoorRows
import GoSem.ClaimSeven
namespace Go.Proofs.YtkjelfmgnkkijaaGreatDoor
namespace Rows

/-- THE TIED CARD OF 'luminairelaw30.MasterGoes'. -/
def masterGoesCard : Claim7 := { stood := { row := masterGoesRow, standIns := [], harness := (true, "447c28a5d96d1d7302d30d0df9220a14ec86dd6775213203382f218e60a5c80d"), looks := true }, kinds := [], alts := [], laidByText := true, laidKinds := [.data, .data, .data, .data, .sentinel, .sentinel, .pinned], laidTests := true, laidLooks := .later }
def MasterGoesCardSaid : Prop := Claim7.holds Tryz.pinned (.plain (OpenSpec.ofChange masterGoesSpec)) masterGoesCard

/-- THE TIED CARD OF 'luminairelaw30.MasterFrees'. -/
def masterFreesCard : Claim7 := { stood := { row := masterFreesRow, standIns := [], harness := (true, "447c28a5d96d1d7302d30d0df9220a14ec86dd6775213203382f218e60a5c80d"), looks := true }, kinds := [], alts := [], laidByText := true, laidKinds := [.data, .data, .data, .data, .sentinel, .sentinel, .pinned], laidTests := true, laidLooks := .later }
def MasterFreesCardSaid : Prop := Claim7.holds Tryz.pinned (.plain (OpenSpec.ofChange masterFreesSpec)) masterFreesCard

/-- THE TIED CARD OF 'luminairelaw30.MasterSources'. -/
def masterSourcesCard : Claim7 := { stood := { row := masterSourcesRow, standIns := [], harness := (true, "447c28a5d96d1d7302d30d0df9220a14ec86dd6775213203382f218e60a5c80d"), looks := true }, kinds := [], alts := [], laidByText := true, laidKinds := [.data, .data, .data, .data, .sentinel, .sentinel, .pinned], laidTests := true, laidLooks := .later }
def MasterSourcesCardSaid : Prop := Claim7.holds Tryz.pinned (.plain (OpenSpec.ofChange masterSourcesSpec)) masterSourcesCard

/-- THE TIED CARD OF 'luminairelaw26.SubmasterMoves'. -/
def submasterMovesCard : Claim7 := { stood := { row := submasterMovesRow, standIns := [], harness := (true, "447c28a5d96d1d7302d30d0df9220a14ec86dd6775213203382f218e60a5c80d"), looks := true }, kinds := [], alts := [], laidByText := true, laidKinds := [.data, .data, .data, .data, .sentinel, .sentinel, .pinned], laidTests := true, laidLooks := .later }
def SubmasterMovesCardSaid : Prop := Claim7.holds Tryz.pinned (.plain (OpenSpec.ofChange submasterMovesSpec)) submasterMovesCard

/-- THE TIED CARD OF 'luminairelaw26.SubmasterGives'. -/
def submasterGivesCard : Claim7 := { stood := { row := submasterGivesRow, standIns := [], harness := (true, "447c28a5d96d1d7302d30d0df9220a14ec86dd6775213203382f218e60a5c80d"), looks := true }, kinds := [], alts := [], laidByText := true, laidKinds := [.data, .data, .data, .data, .sentinel, .sentinel, .pinned], laidTests := true, laidLooks := .later }
def SubmasterGivesCardSaid : Prop := Claim7.holds Tryz.pinned (.plain (OpenSpec.ofChange submasterGivesSpec)) submasterGivesCard

/-- THE TIED CARD OF 'luminairelaw26.SubmasterBounds'. -/
def submasterBoundsCard : Claim7 := { stood := { row := submasterBoundsRow, standIns := [], harness := (true, "447c28a5d96d1d7302d30d0df9220a14ec86dd6775213203382f218e60a5c80d"), looks := true }, kinds := [], alts := [], laidByText := true, laidKinds := [.data, .data, .data, .data, .sentinel, .sentinel, .pinned], laidTests := true, laidLooks := .later }
def SubmasterBoundsCardSaid : Prop := Claim7.holds Tryz.pinned (.plain (OpenSpec.ofChange submasterBoundsSpec)) submasterBoundsCard

/-- THE TIED CARD OF 'luminairelaw26.SubmasterGrows'. -/
def submasterGrowsCard : Claim7 := { stood := { row := submasterGrowsRow, standIns := [], harness := (true, "447c28a5d96d1d7302d30d0df9220a14ec86dd6775213203382f218e60a5c80d"), looks := true }, kinds := [], alts := [], laidByText := true, laidKinds := [.data, .data, .data, .data, .sentinel, .sentinel, .pinned], laidTests := true, laidLooks := .later }
def SubmasterGrowsCardSaid : Prop := Claim7.holds Tryz.pinned (.plain (OpenSpec.ofChange submasterGrowsSpec)) submasterGrowsCard

/-- THE TIED CARD OF 'luminairelaw26.SubmasterChecks'. -/
def submasterChecksCard : Claim7 := { stood := { row := submasterChecksRow, standIns := [], harness := (true, "447c28a5d96d1d7302d30d0df9220a14ec86dd6775213203382f218e60a5c80d"), looks := true }, kinds := [], alts := [], laidByText := true, laidKinds := [.data, .data, .data, .data, .sentinel, .sentinel, .pinned], laidTests := true, laidLooks := .later }
def SubmasterChecksCardSaid : Prop := Claim7.holds Tryz.pinned (.plain (OpenSpec.ofChange submasterChecksSpec)) submasterChecksCard

/-- THE TIED CARD OF 'luminairelaw30.MasterOthers'. -/
def masterOthersCard : Claim7 := { stood := { row := masterOthersRow, standIns := [], harness := (true, "447c28a5d96d1d7302d30d0df9220a14ec86dd6775213203382f218e60a5c80d"), looks := true }, kinds := [], alts := [], laidByText := true, laidKinds := [.data, .data, .data, .data, .sentinel, .sentinel, .pinned], laidTests := true, laidLooks := .later }
def MasterOthersCardSaid : Prop := Claim7.holds Tryz.pinned (.plain (OpenSpec.ofChange masterOthersSpec)) masterOthersCard

/-- THE TIED CARD OF 'luminairelaw26.SubmasterContinues'. -/
def submasterContinuesCard : Claim7 := { stood := { row := submasterContinuesRow, standIns := [], harness := (true, "447c28a5d96d1d7302d30d0df9220a14ec86dd6775213203382f218e60a5c80d"), looks := true }, kinds := [], alts := [], laidByText := true, laidKinds := [.data, .data, .data, .data, .sentinel, .sentinel, .pinned], laidTests := true, laidLooks := .later }
def SubmasterContinuesCardSaid : Prop := Claim7.holds Tryz.pinned (.plain (OpenSpec.ofChange submasterContinuesSpec)) submasterContinuesCard

/-- THE TIED CARD OF 'luminairelaw26.SubmasterTables'. -/
def submasterTablesCard : Claim7 := { stood := { row := submasterTablesRow, standIns := [], harness := (true, "447c28a5d96d1d7302d30d0df9220a14ec86dd6775213203382f218e60a5c80d"), looks := true }, kinds := [], alts := [], laidByText := true, laidKinds := [.data, .data, .data, .data, .sentinel, .sentinel, .pinned], laidTests := true, laidLooks := .later }
def SubmasterTablesCardSaid : Prop := Claim7.holds Tryz.pinned (.plain (OpenSpec.ofChange submasterTablesSpec)) submasterTablesCard

/-- THE TIED CARD OF 'luminairetop.TopFadersContinuous'. -/
def topFadersContinuousCard : Claim7 := { stood := { row := topFadersContinuousRow, standIns := [], harness := (true, "447c28a5d96d1d7302d30d0df9220a14ec86dd6775213203382f218e60a5c80d"), looks := true }, kinds := [], alts := [], laidByText := true, laidKinds := [.data, .data, .data, .data, .sentinel, .sentinel, .pinned], laidTests := true, laidLooks := .later }
def TopFadersContinuousCardSaid : Prop := Claim7.holds Tryz.pinned (.plain (OpenSpec.ofChange topFadersContinuousSpec)) topFadersContinuousCard

/-- THE TIED CARD OF 'luminairetop.TopMastersProduct'. -/
def topMastersProductCard : Claim7 := { stood := { row := topMastersProductRow, standIns := [], harness := (true, "447c28a5d96d1d7302d30d0df9220a14ec86dd6775213203382f218e60a5c80d"), looks := true }, kinds := [], alts := [], laidByText := true, laidKinds := [.data, .data, .data, .data, .sentinel, .sentinel, .pinned], laidTests := true, laidLooks := .later }
def TopMastersProductCardSaid : Prop := Claim7.holds Tryz.pinned (.plain (OpenSpec.ofChange topMastersProductSpec)) topMastersProductCard

/-- THE SECOND FORM's CARD OF 'luminairelaw30.MasterGoes'. -/
def masterGoesUptoCard : Claim7 := { stood := { row := masterGoesUptoRow, standIns := [], harness := (true, "447c28a5d96d1d7302d30d0df9220a14ec86dd6775213203382f218e60a5c80d"), looks := true }, kinds := [], alts := [], laidByText := true, laidKinds := [.data, .data, .data, .data, .sentinel, .sentinel, .pinned], laidTests := true, laidLooks := .later }
def MasterGoesUptoCardSaid : Prop := Claim7.holds Tryz.pinned (.plain (OpenSpec.upto masterGoesSpec)) masterGoesUptoCard

/-- THE SECOND FORM's CARD OF 'luminairelaw30.MasterFrees'. -/
def masterFreesUptoCard : Claim7 := { stood := { row := masterFreesUptoRow, standIns := [], harness := (true, "447c28a5d96d1d7302d30d0df9220a14ec86dd6775213203382f218e60a5c80d"), looks := true }, kinds := [], alts := [], laidByText := true, laidKinds := [.data, .data, .data, .data, .sentinel, .sentinel, .pinned], laidTests := true, laidLooks := .later }
def MasterFreesUptoCardSaid : Prop := Claim7.holds Tryz.pinned (.plain (OpenSpec.upto masterFreesSpec)) masterFreesUptoCard

/-- THE SECOND FORM's CARD OF 'luminairelaw30.MasterSources'. -/
def masterSourcesUptoCard : Claim7 := { stood := { row := masterSourcesUptoRow, standIns := [], harness := (true, "447c28a5d96d1d7302d30d0df9220a14ec86dd6775213203382f218e60a5c80d"), looks := true }, kinds := [], alts := [], laidByText := true, laidKinds := [.data, .data, .data, .data, .sentinel, .sentinel, .pinned], laidTests := true, laidLooks := .later }
def MasterSourcesUptoCardSaid : Prop := Claim7.holds Tryz.pinned (.plain (OpenSpec.upto masterSourcesSpec)) masterSourcesUptoCard

/-- THE SECOND FORM's CARD OF 'luminairelaw26.SubmasterMoves'. -/
def submasterMovesUptoCard : Claim7 := { stood := { row := submasterMovesUptoRow, standIns := [], harness := (true, "447c28a5d96d1d7302d30d0df9220a14ec86dd6775213203382f218e60a5c80d"), looks := true }, kinds := [], alts := [], laidByText := true, laidKinds := [.data, .data, .data, .data, .sentinel, .sentinel, .pinned], laidTests := true, laidLooks := .later }
def SubmasterMovesUptoCardSaid : Prop := Claim7.holds Tryz.pinned (.plain (OpenSpec.upto submasterMovesSpec)) submasterMovesUptoCard

/-- THE SECOND FORM's CARD OF 'luminairelaw26.SubmasterGives'. -/
def submasterGivesUptoCard : Claim7 := { stood := { row := submasterGivesUptoRow, standIns := [], harness := (true, "447c28a5d96d1d7302d30d0df9220a14ec86dd6775213203382f218e60a5c80d"), looks := true }, kinds := [], alts := [], laidByText := true, laidKinds := [.data, .data, .data, .data, .sentinel, .sentinel, .pinned], laidTests := true, laidLooks := .later }
def SubmasterGivesUptoCardSaid : Prop := Claim7.holds Tryz.pinned (.plain (OpenSpec.upto submasterGivesSpec)) submasterGivesUptoCard

/-- THE SECOND FORM's CARD OF 'luminairelaw26.SubmasterBounds'. -/
def submasterBoundsUptoCard : Claim7 := { stood := { row := submasterBoundsUptoRow, standIns := [], harness := (true, "447c28a5d96d1d7302d30d0df9220a14ec86dd6775213203382f218e60a5c80d"), looks := true }, kinds := [], alts := [], laidByText := true, laidKinds := [.data, .data, .data, .data, .sentinel, .sentinel, .pinned], laidTests := true, laidLooks := .later }
def SubmasterBoundsUptoCardSaid : Prop := Claim7.holds Tryz.pinned (.plain (OpenSpec.upto submasterBoundsSpec)) submasterBoundsUptoCard

/-- THE SECOND FORM's CARD OF 'luminairelaw26.SubmasterGrows'. -/
def submasterGrowsUptoCard : Claim7 := { stood := { row := submasterGrowsUptoRow, standIns := [], harness := (true, "447c28a5d96d1d7302d30d0df9220a14ec86dd6775213203382f218e60a5c80d"), looks := true }, kinds := [], alts := [], laidByText := true, laidKinds := [.data, .data, .data, .data, .sentinel, .sentinel, .pinned], laidTests := true, laidLooks := .later }
def SubmasterGrowsUptoCardSaid : Prop := Claim7.holds Tryz.pinned (.plain (OpenSpec.upto submasterGrowsSpec)) submasterGrowsUptoCard

/-- THE SECOND FORM's CARD OF 'luminairelaw26.SubmasterChecks'. -/
def submasterChecksUptoCard : Claim7 := { stood := { row := submasterChecksUptoRow, standIns := [], harness := (true, "447c28a5d96d1d7302d30d0df9220a14ec86dd6775213203382f218e60a5c80d"), looks := true }, kinds := [], alts := [], laidByText := true, laidKinds := [.data, .data, .data, .data, .sentinel, .sentinel, .pinned], laidTests := true, laidLooks := .later }
def SubmasterChecksUptoCardSaid : Prop := Claim7.holds Tryz.pinned (.plain (OpenSpec.upto submasterChecksSpec)) submasterChecksUptoCard

/-- THE SECOND FORM's CARD OF 'luminairelaw30.MasterOthers'. -/
def masterOthersUptoCard : Claim7 := { stood := { row := masterOthersUptoRow, standIns := [], harness := (true, "447c28a5d96d1d7302d30d0df9220a14ec86dd6775213203382f218e60a5c80d"), looks := true }, kinds := [], alts := [], laidByText := true, laidKinds := [.data, .data, .data, .data, .sentinel, .sentinel, .pinned], laidTests := true, laidLooks := .later }
def MasterOthersUptoCardSaid : Prop := Claim7.holds Tryz.pinned (.plain (OpenSpec.upto masterOthersSpec)) masterOthersUptoCard

/-- THE SECOND FORM's CARD OF 'luminairelaw26.SubmasterContinues'. -/
def submasterContinuesUptoCard : Claim7 := { stood := { row := submasterContinuesUptoRow, standIns := [], harness := (true, "447c28a5d96d1d7302d30d0df9220a14ec86dd6775213203382f218e60a5c80d"), looks := true }, kinds := [], alts := [], laidByText := true, laidKinds := [.data, .data, .data, .data, .sentinel, .sentinel, .pinned], laidTests := true, laidLooks := .later }
def SubmasterContinuesUptoCardSaid : Prop := Claim7.holds Tryz.pinned (.plain (OpenSpec.upto submasterContinuesSpec)) submasterContinuesUptoCard

/-- THE SECOND FORM's CARD OF 'luminairelaw26.SubmasterTables'. -/
def submasterTablesUptoCard : Claim7 := { stood := { row := submasterTablesUptoRow, standIns := [], harness := (true, "447c28a5d96d1d7302d30d0df9220a14ec86dd6775213203382f218e60a5c80d"), looks := true }, kinds := [], alts := [], laidByText := true, laidKinds := [.data, .data, .data, .data, .sentinel, .sentinel, .pinned], laidTests := true, laidLooks := .later }
def SubmasterTablesUptoCardSaid : Prop := Claim7.holds Tryz.pinned (.plain (OpenSpec.upto submasterTablesSpec)) submasterTablesUptoCard

/-- THE SECOND FORM's CARD OF 'luminairetop.TopFadersContinuous'. -/
def topFadersContinuousUptoCard : Claim7 := { stood := { row := topFadersContinuousUptoRow, standIns := [], harness := (true, "447c28a5d96d1d7302d30d0df9220a14ec86dd6775213203382f218e60a5c80d"), looks := true }, kinds := [], alts := [], laidByText := true, laidKinds := [.data, .data, .data, .data, .sentinel, .sentinel, .pinned], laidTests := true, laidLooks := .later }
def TopFadersContinuousUptoCardSaid : Prop := Claim7.holds Tryz.pinned (.plain (OpenSpec.upto topFadersContinuousSpec)) topFadersContinuousUptoCard

/-- THE SECOND FORM's CARD OF 'luminairetop.TopMastersProduct'. -/
def topMastersProductUptoCard : Claim7 := { stood := { row := topMastersProductUptoRow, standIns := [], harness := (true, "447c28a5d96d1d7302d30d0df9220a14ec86dd6775213203382f218e60a5c80d"), looks := true }, kinds := [], alts := [], laidByText := true, laidKinds := [.data, .data, .data, .data, .sentinel, .sentinel, .pinned], laidTests := true, laidLooks := .later }
def TopMastersProductUptoCardSaid : Prop := Claim7.holds Tryz.pinned (.plain (OpenSpec.upto topMastersProductSpec)) topMastersProductUptoCard
end Rows
end Go.Proofs.YtkjelfmgnkkijaaGreatDoor
