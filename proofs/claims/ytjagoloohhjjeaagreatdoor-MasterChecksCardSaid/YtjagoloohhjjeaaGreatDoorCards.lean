/-
  DERIVED. GIVEN WITH THE SEED: THE CARDS: each row of YtjagoloohhjjeaaGreatDoorRows.lean that lists a variable, with what it lists TIED to the program's text (the seventh form; the later family's looks); each row that meets fmt, with fmt's text TOLD by the authors' own Lean function (tested against real Go, not proved from fmt's source: count such statements apart). THE CARD IS WHAT COUNTS. Prove the row's statement (the work); the ties are given (YtjagoloohhjjeaaGreatDoorTie.lean); close each card by the builder's one call (the guide's Derived/Test/ToyasCard.lean, 'card_holds'). Laid BY PROGRAM, IN A SANDBOX (cutbox-door.mjs). By AI agents, Wed Nov 11 2026. No macro, syntax, notation, axiom, sorry.
-/
import Derived.Test.YtjagoloohhjjeaaGreatDoorRows
import GoSem.ClaimSeven
namespace Go.Proofs.YtjagoloohhjjeaaGreatDoor
namespace Rows

/-- THE TIED CARD OF 'luminairelaw30.MasterScales'. -/
def masterScalesCard : Claim7 := { stood := { row := masterScalesRow, standIns := [], harness := (true, "93712b78b4a24075c2cecba8c93952b1bb8bd305c9a88f886f9f392804553ac9"), looks := true }, kinds := [], alts := [], laidByText := true, laidKinds := [.data, .data, .data, .data, .sentinel, .sentinel, .pinned], laidTests := true, laidLooks := .later }
def MasterScalesCardSaid : Prop := Claim7.holds Tryz.pinned (.plain (OpenSpec.ofChange masterScalesSpec)) masterScalesCard

/-- THE TIED CARD OF 'luminairelaw30.MasterApplies'. -/
def masterAppliesCard : Claim7 := { stood := { row := masterAppliesRow, standIns := [], harness := (true, "93712b78b4a24075c2cecba8c93952b1bb8bd305c9a88f886f9f392804553ac9"), looks := true }, kinds := [], alts := [], laidByText := true, laidKinds := [.data, .data, .data, .data, .sentinel, .sentinel, .pinned], laidTests := true, laidLooks := .later }
def MasterAppliesCardSaid : Prop := Claim7.holds Tryz.pinned (.plain (OpenSpec.ofChange masterAppliesSpec)) masterAppliesCard

/-- THE TIED CARD OF 'luminairelaw30.MasterBounds'. -/
def masterBoundsCard : Claim7 := { stood := { row := masterBoundsRow, standIns := [], harness := (true, "93712b78b4a24075c2cecba8c93952b1bb8bd305c9a88f886f9f392804553ac9"), looks := true }, kinds := [], alts := [], laidByText := true, laidKinds := [.data, .data, .data, .data, .sentinel, .sentinel, .pinned], laidTests := true, laidLooks := .later }
def MasterBoundsCardSaid : Prop := Claim7.holds Tryz.pinned (.plain (OpenSpec.ofChange masterBoundsSpec)) masterBoundsCard

/-- THE TIED CARD OF 'luminairelaw30.MasterChecks'. -/
def masterChecksCard : Claim7 := { stood := { row := masterChecksRow, standIns := [], harness := (true, "93712b78b4a24075c2cecba8c93952b1bb8bd305c9a88f886f9f392804553ac9"), looks := true }, kinds := [], alts := [], laidByText := true, laidKinds := [.data, .data, .data, .data, .sentinel, .sentinel, .pinned], laidTests := true, laidLooks := .later }
def MasterChecksCardSaid : Prop := Claim7.holds Tryz.pinned (.plain (OpenSpec.ofChange masterChecksSpec)) masterChecksCard

/-- THE TIED CARD OF 'luminairelaw30.MasterGoes'. -/
def masterGoesCard : Claim7 := { stood := { row := masterGoesRow, standIns := [], harness := (true, "93712b78b4a24075c2cecba8c93952b1bb8bd305c9a88f886f9f392804553ac9"), looks := true }, kinds := [], alts := [], laidByText := true, laidKinds := [.data, .data, .data, .data, .sentinel, .sentinel, .pinned], laidTests := true, laidLooks := .later }
def MasterGoesCardSaid : Prop := Claim7.holds Tryz.pinned (.plain (OpenSpec.ofChange masterGoesSpec)) masterGoesCard

/-- THE TIED CARD OF 'luminairelaw30.MasterFrees'. -/
def masterFreesCard : Claim7 := { stood := { row := masterFreesRow, standIns := [], harness := (true, "93712b78b4a24075c2cecba8c93952b1bb8bd305c9a88f886f9f392804553ac9"), looks := true }, kinds := [], alts := [], laidByText := true, laidKinds := [.data, .data, .data, .data, .sentinel, .sentinel, .pinned], laidTests := true, laidLooks := .later }
def MasterFreesCardSaid : Prop := Claim7.holds Tryz.pinned (.plain (OpenSpec.ofChange masterFreesSpec)) masterFreesCard

/-- THE TIED CARD OF 'luminairelaw30.MasterSources'. -/
def masterSourcesCard : Claim7 := { stood := { row := masterSourcesRow, standIns := [], harness := (true, "93712b78b4a24075c2cecba8c93952b1bb8bd305c9a88f886f9f392804553ac9"), looks := true }, kinds := [], alts := [], laidByText := true, laidKinds := [.data, .data, .data, .data, .sentinel, .sentinel, .pinned], laidTests := true, laidLooks := .later }
def MasterSourcesCardSaid : Prop := Claim7.holds Tryz.pinned (.plain (OpenSpec.ofChange masterSourcesSpec)) masterSourcesCard

/-- THE TIED CARD OF 'luminairelaw30.MasterOthers'. -/
def masterOthersCard : Claim7 := { stood := { row := masterOthersRow, standIns := [], harness := (true, "93712b78b4a24075c2cecba8c93952b1bb8bd305c9a88f886f9f392804553ac9"), looks := true }, kinds := [], alts := [], laidByText := true, laidKinds := [.data, .data, .data, .data, .sentinel, .sentinel, .pinned], laidTests := true, laidLooks := .later }
def MasterOthersCardSaid : Prop := Claim7.holds Tryz.pinned (.plain (OpenSpec.ofChange masterOthersSpec)) masterOthersCard

/-- THE SECOND FORM's CARD OF 'luminairelaw30.MasterScales'. -/
def masterScalesUptoCard : Claim7 := { stood := { row := masterScalesUptoRow, standIns := [], harness := (true, "93712b78b4a24075c2cecba8c93952b1bb8bd305c9a88f886f9f392804553ac9"), looks := true }, kinds := [], alts := [], laidByText := true, laidKinds := [.data, .data, .data, .data, .sentinel, .sentinel, .pinned], laidTests := true, laidLooks := .later }
def MasterScalesUptoCardSaid : Prop := Claim7.holds Tryz.pinned (.plain (OpenSpec.upto masterScalesSpec)) masterScalesUptoCard

/-- THE SECOND FORM's CARD OF 'luminairelaw30.MasterApplies'. -/
def masterAppliesUptoCard : Claim7 := { stood := { row := masterAppliesUptoRow, standIns := [], harness := (true, "93712b78b4a24075c2cecba8c93952b1bb8bd305c9a88f886f9f392804553ac9"), looks := true }, kinds := [], alts := [], laidByText := true, laidKinds := [.data, .data, .data, .data, .sentinel, .sentinel, .pinned], laidTests := true, laidLooks := .later }
def MasterAppliesUptoCardSaid : Prop := Claim7.holds Tryz.pinned (.plain (OpenSpec.upto masterAppliesSpec)) masterAppliesUptoCard

/-- THE SECOND FORM's CARD OF 'luminairelaw30.MasterBounds'. -/
def masterBoundsUptoCard : Claim7 := { stood := { row := masterBoundsUptoRow, standIns := [], harness := (true, "93712b78b4a24075c2cecba8c93952b1bb8bd305c9a88f886f9f392804553ac9"), looks := true }, kinds := [], alts := [], laidByText := true, laidKinds := [.data, .data, .data, .data, .sentinel, .sentinel, .pinned], laidTests := true, laidLooks := .later }
def MasterBoundsUptoCardSaid : Prop := Claim7.holds Tryz.pinned (.plain (OpenSpec.upto masterBoundsSpec)) masterBoundsUptoCard

/-- THE SECOND FORM's CARD OF 'luminairelaw30.MasterChecks'. -/
def masterChecksUptoCard : Claim7 := { stood := { row := masterChecksUptoRow, standIns := [], harness := (true, "93712b78b4a24075c2cecba8c93952b1bb8bd305c9a88f886f9f392804553ac9"), looks := true }, kinds := [], alts := [], laidByText := true, laidKinds := [.data, .data, .data, .data, .sentinel, .sentinel, .pinned], laidTests := true, laidLooks := .later }
def MasterChecksUptoCardSaid : Prop := Claim7.holds Tryz.pinned (.plain (OpenSpec.upto masterChecksSpec)) masterChecksUptoCard

/-- THE SECOND FORM's CARD OF 'luminairelaw30.MasterGoes'. -/
def masterGoesUptoCard : Claim7 := { stood := { row := masterGoesUptoRow, standIns := [], harness := (true, "93712b78b4a24075c2cecba8c93952b1bb8bd305c9a88f886f9f392804553ac9"), looks := true }, kinds := [], alts := [], laidByText := true, laidKinds := [.data, .data, .data, .data, .sentinel, .sentinel, .pinned], laidTests := true, laidLooks := .later }
def MasterGoesUptoCardSaid : Prop := Claim7.holds Tryz.pinned (.plain (OpenSpec.upto masterGoesSpec)) masterGoesUptoCard

/-- THE SECOND FORM's CARD OF 'luminairelaw30.MasterFrees'. -/
def masterFreesUptoCard : Claim7 := { stood := { row := masterFreesUptoRow, standIns := [], harness := (true, "93712b78b4a24075c2cecba8c93952b1bb8bd305c9a88f886f9f392804553ac9"), looks := true }, kinds := [], alts := [], laidByText := true, laidKinds := [.data, .data, .data, .data, .sentinel, .sentinel, .pinned], laidTests := true, laidLooks := .later }
def MasterFreesUptoCardSaid : Prop := Claim7.holds Tryz.pinned (.plain (OpenSpec.upto masterFreesSpec)) masterFreesUptoCard

/-- THE SECOND FORM's CARD OF 'luminairelaw30.MasterSources'. -/
def masterSourcesUptoCard : Claim7 := { stood := { row := masterSourcesUptoRow, standIns := [], harness := (true, "93712b78b4a24075c2cecba8c93952b1bb8bd305c9a88f886f9f392804553ac9"), looks := true }, kinds := [], alts := [], laidByText := true, laidKinds := [.data, .data, .data, .data, .sentinel, .sentinel, .pinned], laidTests := true, laidLooks := .later }
def MasterSourcesUptoCardSaid : Prop := Claim7.holds Tryz.pinned (.plain (OpenSpec.upto masterSourcesSpec)) masterSourcesUptoCard

/-- THE SECOND FORM's CARD OF 'luminairelaw30.MasterOthers'. -/
def masterOthersUptoCard : Claim7 := { stood := { row := masterOthersUptoRow, standIns := [], harness := (true, "93712b78b4a24075c2cecba8c93952b1bb8bd305c9a88f886f9f392804553ac9"), looks := true }, kinds := [], alts := [], laidByText := true, laidKinds := [.data, .data, .data, .data, .sentinel, .sentinel, .pinned], laidTests := true, laidLooks := .later }
def MasterOthersUptoCardSaid : Prop := Claim7.holds Tryz.pinned (.plain (OpenSpec.upto masterOthersSpec)) masterOthersUptoCard
end Rows
end Go.Proofs.YtjagoloohhjjeaaGreatDoor
