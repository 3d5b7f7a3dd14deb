/-
  Waves: Extremes, Mean.
-/
import Derived.Test.YtbamcfhmkohbmaaGreatDoorWv2
import Derived.Test.YtbamcfhmkohbmaaGreatDoorWp
import Derived.BigQuiet
import Derived.Deep.QuietTactic
import Derived.Outline
set_option linter.unusedVariables false
set_option linter.unusedSimpArgs false
namespace Lum
open Go Go.RowKit Go.Shelf
open Go.Lib (decDigits itoa)
theorem loF_one (l : List (Int × Int)) : loF l 1 = pY l 0 ∧ hiF l 1 = pY l 0 := by
  constructor
  · show min (pY l 0) (pY l 0) = _; omega
  · show max (pY l 0) (pY l 0) = _; omega
end Lum
namespace Go.Proofs.YtbamcfhmkohbmaaGreatDoor
open Go.RowKit Go.Shelf Lum
open Go.Lib (decDigits itoa)
attribute [local go_sem] bs_get bs_extract_end bs_extract_from bs_extract bs_append

end Go.Proofs.YtbamcfhmkohbmaaGreatDoor
