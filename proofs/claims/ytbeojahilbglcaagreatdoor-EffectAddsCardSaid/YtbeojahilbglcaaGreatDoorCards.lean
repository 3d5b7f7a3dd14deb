/-
  DERIVED. GIVEN WITH THE SEED: THE CARDS: each row of YtbeojahilbglcaaGreatDoorRows.lean that lists a variable, with what it lists TIED to the program's text (the seventh form; the later family's looks); each row that meets fmt, with fmt's text TOLD by the authors' own Lean function (tested against real Go, not proved from fmt's source: count such statements apart). THE CARD IS WHAT COUNTS. Prove the row's statement (the work); the ties are given (YtbeojahilbglcaaGreatDoorTie.lean); close each card by the builder's one call (the guide's Derived/Test/ToyasCard.lean, 'card_holds'). Laid BY PROGRAM, IN A SANDBOX (cutbox-door.mjs). By AI agents, Wed Nov 11 2026. No macro, syntax, notation, axiom, sorry.
-/
import Derived.Test.YtbeojahilbglcaaGreatDoorRows
import GoSem.ClaimSeven
namespace Go.Proofs.YtbeojahilbglcaaGreatDoor
namespace Rows

/-- THE TIED CARD OF 'luminairelaw28.EffectRuns'. -/
def effectRunsCard : Claim7 := { stood := { row := effectRunsRow, standIns := [], harness := (true, "5d3069334ad8f555c711ff0fe85fbd63fec9479b6bc93d679e54251aff38a98c"), looks := true }, kinds := [], alts := [], laidByText := true, laidKinds := [.data, .data, .data, .data, .sentinel, .sentinel, .pinned], laidTests := true, laidLooks := .later }
def EffectRunsCardSaid : Prop := Claim7.holds Tryz.pinned (.plain (OpenSpec.ofChange effectRunsSpec)) effectRunsCard

/-- THE TIED CARD OF 'luminairelaw28.EffectSums'. -/
def effectSumsCard : Claim7 := { stood := { row := effectSumsRow, standIns := [], harness := (true, "5d3069334ad8f555c711ff0fe85fbd63fec9479b6bc93d679e54251aff38a98c"), looks := true }, kinds := [], alts := [], laidByText := true, laidKinds := [.data, .data, .data, .data, .sentinel, .sentinel, .pinned], laidTests := true, laidLooks := .later }
def EffectSumsCardSaid : Prop := Claim7.holds Tryz.pinned (.plain (OpenSpec.ofChange effectSumsSpec)) effectSumsCard

/-- THE TIED CARD OF 'luminairelaw28.EffectAdds'. -/
def effectAddsCard : Claim7 := { stood := { row := effectAddsRow, standIns := [], harness := (true, "5d3069334ad8f555c711ff0fe85fbd63fec9479b6bc93d679e54251aff38a98c"), looks := true }, kinds := [], alts := [], laidByText := true, laidKinds := [.data, .data, .data, .data, .sentinel, .sentinel, .pinned], laidTests := true, laidLooks := .later }
def EffectAddsCardSaid : Prop := Claim7.holds Tryz.pinned (.plain (OpenSpec.ofChange effectAddsSpec)) effectAddsCard

/-- THE SECOND FORM's CARD OF 'luminairelaw28.EffectRuns'. -/
def effectRunsUptoCard : Claim7 := { stood := { row := effectRunsUptoRow, standIns := [], harness := (true, "5d3069334ad8f555c711ff0fe85fbd63fec9479b6bc93d679e54251aff38a98c"), looks := true }, kinds := [], alts := [], laidByText := true, laidKinds := [.data, .data, .data, .data, .sentinel, .sentinel, .pinned], laidTests := true, laidLooks := .later }
def EffectRunsUptoCardSaid : Prop := Claim7.holds Tryz.pinned (.plain (OpenSpec.upto effectRunsSpec)) effectRunsUptoCard

/-- THE SECOND FORM's CARD OF 'luminairelaw28.EffectSums'. -/
def effectSumsUptoCard : Claim7 := { stood := { row := effectSumsUptoRow, standIns := [], harness := (true, "5d3069334ad8f555c711ff0fe85fbd63fec9479b6bc93d679e54251aff38a98c"), looks := true }, kinds := [], alts := [], laidByText := true, laidKinds := [.data, .data, .data, .data, .sentinel, .sentinel, .pinned], laidTests := true, laidLooks := .later }
def EffectSumsUptoCardSaid : Prop := Claim7.holds Tryz.pinned (.plain (OpenSpec.upto effectSumsSpec)) effectSumsUptoCard

/-- THE SECOND FORM's CARD OF 'luminairelaw28.EffectAdds'. -/
def effectAddsUptoCard : Claim7 := { stood := { row := effectAddsUptoRow, standIns := [], harness := (true, "5d3069334ad8f555c711ff0fe85fbd63fec9479b6bc93d679e54251aff38a98c"), looks := true }, kinds := [], alts := [], laidByText := true, laidKinds := [.data, .data, .data, .data, .sentinel, .sentinel, .pinned], laidTests := true, laidLooks := .later }
def EffectAddsUptoCardSaid : Prop := Claim7.holds Tryz.pinned (.plain (OpenSpec.upto effectAddsSpec)) effectAddsUptoCard
end Rows
end Go.Proofs.YtbeojahilbglcaaGreatDoor
