/-
  The reference of layers 26 and 30: Same. Blocks beside stores.
-/
import Derived.Test.YtkjelfmgnkkijaaGreatDoorQmGk
import Derived.Test.YtkjelfmgnkkijaaGreatDoorQmNf
import Derived.Test.YtkjelfmgnkkijaaGreatDoorQmMz
import Derived.Test.YtkjelfmgnkkijaaGreatDoorQmHw
import Derived.Deep.RegionHeld3
set_option linter.unusedVariables false
set_option linter.unusedSimpArgs false
namespace Go.Proofs.YtkjelfmgnkkijaaGreatDoor
open Go.RowKit Go.Shelf Lum
open Go.Lib (decDigits itoa)
attribute [local go_sem] bs_get bs_extract_end bs_extract_from bs_extract bs_append

end Go.Proofs.YtkjelfmgnkkijaaGreatDoor
namespace Lum
open Go Go.RowKit Go.Shelf
open Go.Lib (decDigits itoa)
theorem bset7 {B : Nat} {a w : World} (h : Below B a w) {n : Nat} (hn : B ≤ n) (b0 b1 b2 b3 b4 b5 b6 : Value) : Below B a (((((((w.setCell ⟨n, 0, none⟩ b0).setCell ⟨n, 1, none⟩ b1).setCell ⟨n, 2, none⟩ b2).setCell ⟨n, 3, none⟩ b3).setCell ⟨n, 4, none⟩ b4).setCell ⟨n, 5, none⟩ b5).setCell ⟨n, 6, none⟩ b6) :=
  (((bset4 h hn b0 b1 b2 b3).setCell (p := ⟨n, 4, none⟩) hn b4).setCell (p := ⟨n, 5, none⟩) hn b5).setCell (p := ⟨n, 6, none⟩) hn b6
end Lum
