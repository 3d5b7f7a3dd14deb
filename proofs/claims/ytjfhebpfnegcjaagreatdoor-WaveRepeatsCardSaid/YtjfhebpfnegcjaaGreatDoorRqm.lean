/-
  The reference of layer 2 (ratio): Minus, Mixed.
-/
import Derived.Test.YtjfhebpfnegcjaaGreatDoorRq5
set_option linter.unusedVariables false
set_option linter.unusedSimpArgs false
namespace Go.Proofs.YtjfhebpfnegcjaaGreatDoor
open Go.RowKit Go.Shelf Lum
open Go.Lib (decDigits itoa)
attribute [local go_sem] bs_get bs_extract_end bs_extract_from bs_extract bs_append

theorem r2_minus (x y : Rat) (w : World) (hx : Fits 9000 x) (hy : Fits 9000 y) :
    Calls Tryz.prog 85 #[.string ⟨(showR x).toArray⟩, .string ⟨(showR y).toArray⟩] w fun e w' => e = .returned (.string ⟨(showR (x - y)).toArray⟩) ∧ Below w.heap.size w w' := by
  rw [Rat.sub_eq_add_neg]
  have ht := fun W => r2_turned y W (hy.mono (by omega))
  have hp := fun W => r2_plus x (-y) W hx (fits_neg hy)
  generalize x + -y = z at *
  generalize -y = u at *
  clear hx hy
  have HT := Lib.hid ht; clear ht
  have HP := Lib.hid hp; clear hp
  have HB := Lib.hid (Below.refl w.heap.size w)
  go_enter Tryz.func85, Tryz.ntmps85
  go_wp2_with (first | (with_reducible refine ((HT.out _).mono ?_); rintro e w' ⟨rfl, rfl⟩) | (with_reducible refine ((HP.out _).mono ?_); rintro e w' ⟨rfl, hb⟩; replace HB := Lib.hid (bch' HB.out hb); clear hb))
  go_ret
  exact ⟨rfl, HB.out⟩

theorem r2_mixed (x y v : Rat) (w : World) (hx : Fits 2000 x) (hy : Fits 2000 y) (hv : Fits 2000 v) :
    Calls Tryz.prog 86 #[.string ⟨(showR x).toArray⟩, .string ⟨(showR y).toArray⟩, .string ⟨(showR v).toArray⟩] w fun e w' => e = .returned (.string ⟨(showR (x + (y - x) * v)).toArray⟩) ∧ Below w.heap.size w w' := by
  have hm := fun W => r2_minus y x W (hy.mono (by omega)) (hx.mono (by omega))
  have f1 : Fits 4001 (y - x) := by rw [Rat.sub_eq_add_neg]; exact fits_add hy (fits_neg hx)
  have ht := fun W => r2_times (y - x) v W (f1.mono (by omega)) (hv.mono (by omega))
  have hp := fun W => r2_plus x ((y - x) * v) W (hx.mono (by omega)) ((fits_mul f1 (hv.mono (by omega))).mono (by omega))
  generalize x + (y - x) * v = z at *
  generalize (y - x) * v = u at *
  generalize y - x = t at *
  clear hx hy hv f1
  have HM := Lib.hid hm; clear hm
  have HT := Lib.hid ht; clear ht
  have HP := Lib.hid hp; clear hp
  have HB := Lib.hid (Below.refl w.heap.size w)
  go_enter Tryz.func86, Tryz.ntmps86
  go_wp2_with (first | (with_reducible refine ((HM.out _).mono ?_); rintro e w' ⟨rfl, hb⟩; replace HB := Lib.hid (bch' HB.out hb); clear hb) | (with_reducible refine ((HT.out _).mono ?_); rintro e w' ⟨rfl, hb⟩; replace HB := Lib.hid (bch' HB.out hb); clear hb) | (with_reducible refine ((HP.out _).mono ?_); rintro e w' ⟨rfl, hb⟩; replace HB := Lib.hid (bch' HB.out hb); clear hb))
  go_ret
  exact ⟨rfl, HB.out⟩
end Go.Proofs.YtjfhebpfnegcjaaGreatDoor
