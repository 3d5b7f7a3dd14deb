/-
  The law WaveTurns: the walk.
-/
import Derived.Test.YtbamcfhmkohbmaaGreatDoorWv18
import Derived.Test.YtbamcfhmkohbmaaGreatDoorWv17
set_option linter.unusedVariables false
set_option linter.unusedSimpArgs false
namespace Lum
open Go Go.RowKit Go.Shelf
open Go.Lib (decDigits itoa)
theorem scanW_of_wv {l : List (Int × Int)} (w : Wv l) : ∀ n i, i + n ≤ l.length → scanW l n i = 0
  | 0, _, _ => rfl
  | n + 1, i, h => by
    have hy := w.h i (by omega)
    rw [scanW, if_neg (by omega), if_neg]
    · exact scanW_of_wv w n (i + 1) (by omega)
    · intro ⟨h0, h1⟩
      have := w.s (i - 1) (by omega)
      rw [show i - 1 + 1 = i by omega] at this
      omega
theorem wvE_of_wv {l : List (Int × Int)} (w : Wv l) : wvE l = 0 := by
  have h0 := w.lo; have h1 := w.hi; have hx := w.x0; have hx1 := w.x1; have hy := w.y
  unfold wvE
  rw [if_neg (by omega), if_neg (by omega), scanW_of_wv w l.length 0 (by omega), if_neg (by simp), if_neg (by simpa using hy)]
theorem meanW_flip (l : List (Int × Int)) : meanW (flipL l) = -meanW l := by unfold meanW; rw [areaL_flip, Rat.neg_divInt]
theorem meanW_mir (l : List (Int × Int)) : meanW (mirL l) = meanW l := by unfold meanW; rw [areaL_mir]
theorem fits_divI (m R : Int) (hm0 : -9223372036854775808 ≤ m) (hm1 : m ≤ 9223372036854775807) (hR0 : 1 ≤ R) (hR1 : R ≤ 9223372036854775807) : Fits 19 (Rat.divInt m R) :=
  divInt_fits m R (by omega) 19 (dl_i64 m hm0 hm1) (dl_i64 R (by omega) hR1)
theorem fits_mean {l : List (Int × Int)} (w : Wv l) : Fits 19 (meanW l) := by
  have h0 := w.lo
  have := area_bound w l.length (by omega) (Nat.le_refl _)
  rw [List.take_length, w.x1] at this
  exact fits_divI _ 2000 (by omega) (by omega) (by omega) (by omega)
end Lum
namespace Go.Proofs.YtbamcfhmkohbmaaGreatDoor
open Go.RowKit Go.Shelf Lum
open Go.Lib (decDigits itoa)
attribute [local go_sem] bs_get bs_extract_end bs_extract_from bs_extract bs_append

end Go.Proofs.YtbamcfhmkohbmaaGreatDoor
