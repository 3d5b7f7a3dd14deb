/-
  Law 30: House, at. Law 30: slices.Equal at sources; awake.
-/
import Derived.Test.YtkjelfmgnkkijaaGreatDoorQmNf
import Derived.Test.YtkjelfmgnkkijaaGreatDoorQmMv
import Derived.Deep.RegionHeld3
import Derived.Test.YtkjelfmgnkkijaaGreatDoorQmOi
import Derived.Test.YtkjelfmgnkkijaaGreatDoorQmQq
import Derived.Laws.StructEq
set_option linter.unusedVariables false
set_option linter.unusedSimpArgs false
namespace Lum
open Go Go.RowKit Go.Shelf
open Go.Lib (decDigits itoa)
/-- The submasters of the examples. -/
def houseL : List Sb := [⟨4, 0, true, [⟨1, 0, 65535⟩]⟩, ⟨6, 0, true, [⟨1, 0, 13107⟩, ⟨2, 0, 13107⟩]⟩]
end Lum
namespace Go.Proofs.YtkjelfmgnkkijaaGreatDoor
open Go.RowKit Go.Shelf Lum
open Go.Lib (decDigits itoa)
attribute [local go_sem] bs_get bs_extract_end bs_extract_from bs_extract bs_append

end Go.Proofs.YtkjelfmgnkkijaaGreatDoor
namespace Lum
open Go Go.RowKit Go.Shelf
open Go.Lib (decDigits itoa)
def PtC (W : World) (b o : Nat) (l : List (Int × Int)) : Prop := ∀ i, i < l.length → W.cell? ⟨b, o + i * 2, none⟩ = some (.int .i64 (pX l i)) ∧ W.cell? ⟨b, o + i * 2 + 1, none⟩ = some (.int .i64 (pY l i))
theorem PtC.below {W W' : World} {b o B : Nat} {l : List (Int × Int)} (h : PtC W b o l) (hb : Below B W W') (hl : b < B) : PtC W' b o l :=
  fun i hi => ⟨(hb.cell (p := ⟨b, o + i * 2, none⟩) hl).trans (h i hi).1, (hb.cell (p := ⟨b, o + i * 2 + 1, none⟩) hl).trans (h i hi).2⟩
end Lum
namespace Go.Proofs.YtkjelfmgnkkijaaGreatDoor
open Go.RowKit Go.Shelf Lum
open Go.Lib (decDigits itoa)
attribute [local go_sem] bs_get bs_extract_end bs_extract_from bs_extract bs_append

end Go.Proofs.YtkjelfmgnkkijaaGreatDoor
