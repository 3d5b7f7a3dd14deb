/- A part of the proof of EffectAdds: contracts of functions, and plain facts. -/
import Derived.Test.YtbeojahilbglcaaGreatDoorQdWv2
import Derived.Test.YtbeojahilbglcaaGreatDoorQdYw
import Derived.Deep.RegionHeld3
import Derived.StillTailTactics
import Derived.Deep.DeepCutAuto
import Derived.Deep.Cut
set_option linter.unusedVariables false
set_option linter.unusedSimpArgs false
namespace Lum
open Go Go.RowKit Go.Shelf
open Go.Lib (decDigits itoa)
end Lum
namespace Go.Proofs.YtbeojahilbglcaaGreatDoor
open Go.RowKit Go.Shelf Lum
open Go.Lib (decDigits itoa)
attribute [local go_sem] bs_get bs_extract_end bs_extract_from bs_extract bs_append
end Go.Proofs.YtbeojahilbglcaaGreatDoor
