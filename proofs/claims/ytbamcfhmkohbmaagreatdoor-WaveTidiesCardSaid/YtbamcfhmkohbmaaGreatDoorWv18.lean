/-
  The law WaveRepeats: the walk.
-/
import Derived.Test.YtbamcfhmkohbmaaGreatDoorWv12
import Derived.Test.YtbamcfhmkohbmaaGreatDoorWf
set_option linter.unusedVariables false
set_option linter.unusedSimpArgs false
namespace Lum
open Go Go.RowKit Go.Shelf
open Go.Lib (decDigits itoa)
theorem hgt_add (l : List (Int × Int)) (x : Rat) (n : Int) : hgtW l (x + ((1000 * n : Int) : Rat)) = hgtW l x := by unfold hgtW; rw [place_add]
theorem fits_hgt {l : List (Int × Int)} {x : Rat} (w : Wv l) (hx : Fits 400 x) : Fits 1000 (hgtW l x) := by
  obtain ⟨b, c, d⟩ := kW_in w x
  rw [hgtW_seg]
  generalize kW l (place x) l.length 0 = j at *
  have s := w.s j b
  have r0 := w.range (show j < l.length by omega)
  have r1 := w.range b
  have y0 := w.h j (by omega)
  have y1 := w.h (j + 1) b
  have hne : ((pX l (j + 1) - pX l j : Int) : Rat) ≠ 0 := fun h => by have := Rat.intCast_inj.1 (h.trans (show (0 : Rat) = ((0 : Int) : Rat) from rfl)); omega
  exact (fits_mix2 (fits_i64 _ (by omega) (by omega)) (fits_i64 _ (by omega) (by omega)) (fits_div2 (fits_sub2 (fits_place hx) (fits_i64 (pX l j) (by omega) (by omega))) (fits_i64 _ (by omega) (by omega)) hne)).mono (by omega)
theorem sgn_ge {x y : Rat} (h : y ≤ x) : ¬ sgn x y < 0 := fun g => absurd ((sgn_lt x y).1 g) (Rat.not_lt.2 h)
theorem sgn_leq {x y : Rat} (h : x ≤ y) : ¬ 0 < sgn x y := fun g => absurd ((sgn_gt x y).1 g) (Rat.not_lt.2 h)
end Lum
namespace Go.Proofs.YtbamcfhmkohbmaaGreatDoor
open Go.RowKit Go.Shelf Lum
open Go.Lib (decDigits itoa)
attribute [local go_sem] bs_get bs_extract_end bs_extract_from bs_extract bs_append

end Go.Proofs.YtbamcfhmkohbmaaGreatDoor
