/-
  The laws of layer 2: their own examples.
-/
import Derived.Test.YtnjaikomoljmjaaGreatDoorRa12
set_option linter.unusedVariables false
set_option linter.unusedSimpArgs false
namespace Lum
open Go Go.RowKit Go.Shelf
open Go.Lib (decDigits itoa)
/-- A row's cell, kept. -/
theorem keepK {W W' : World} {B o : Nat} {v : Value} (h : W.cell? ⟨B, o, none⟩ = some v) (hb : Below W.heap.size W W') : W'.cell? ⟨B, o, none⟩ = some v :=
  (hb.cell (p := ⟨B, o, none⟩) (World.block_lt_of_cell? W _ h)).trans h
end Lum
namespace Go.Proofs.YtnjaikomoljmjaaGreatDoor
open Go.RowKit Go.Shelf Lum
open Go.Lib (decDigits itoa)
attribute [local go_sem] bs_get bs_extract_end bs_extract_from bs_extract bs_append

set_option maxRecDepth 100000 in
set_option maxHeartbeats 4000000 in
theorem law02_awake (w : World) (env : Env w) :
    Calls Tryz.prog 47 #[] w fun e w' => e = .returned (.bool (true)) ∧ Below w.heap.size w w' := by
  have h1 := fun W (e : Env W) => own_rof ([54] : Txt) ([45, 52] : Txt) W e (by decide) (by decide)
  rw [show ofT ([54] : Txt) ([45, 52] : Txt) = (([45, 51, 47, 50] : Txt), 0) by decide +kernel] at h1
  have h2 := fun W (e : Env W) => own_floor ([45, 51, 47, 50] : Txt) W (by decide) e
  rw [show floorT ([45, 51, 47, 50] : Txt) = (([45, 50] : Txt), 0) by decide +kernel] at h2
  have h3 := fun W (e : Env W) => own_round ([45, 51, 47, 50] : Txt) W (by decide) e
  rw [show roundT ([45, 51, 47, 50] : Txt) = (([45, 49] : Txt), 0) by decide +kernel] at h3
  have h4 := fun W (e : Env W) => own_round ([53, 47, 50] : Txt) W (by decide) e
  rw [show roundT ([53, 47, 50] : Txt) = (([51] : Txt), 0) by decide +kernel] at h4
  have h5 := fun W (e : Env W) => own_radd ([49, 47, 54] : Txt) ([49, 47, 51] : Txt) W e (by decide) (by decide)
  rw [show rTwo ([49, 47, 54] : Txt) ([49, 47, 51] : Txt) qAdd = (([49, 47, 50] : Txt), 0) by decide +kernel] at h5
  have h6 := fun W (e : Env W) => own_rsub ([49, 47, 54] : Txt) ([49, 47, 51] : Txt) W e (by decide) (by decide)
  rw [show rTwo ([49, 47, 54] : Txt) ([49, 47, 51] : Txt) qSub = (([45, 49, 47, 54] : Txt), 0) by decide +kernel] at h6
  have h7 := fun W (e : Env W) => own_rmul ([49, 47, 54] : Txt) ([49, 47, 51] : Txt) W e (by decide) (by decide)
  rw [show rTwo ([49, 47, 54] : Txt) ([49, 47, 51] : Txt) qMul = (([49, 47, 49, 56] : Txt), 0) by decide +kernel] at h7
  have h8 := fun W (e : Env W) => own_rdiv ([49, 47, 54] : Txt) ([49, 47, 51] : Txt) W e (by decide) (by decide)
  rw [show rTwo ([49, 47, 54] : Txt) ([49, 47, 51] : Txt) qDiv = (([49, 47, 50] : Txt), 0) by decide +kernel] at h8
  have h9 := fun W (e : Env W) => own_mix ([49, 48] : Txt) ([51, 48] : Txt) ([49, 47, 52] : Txt) W (by decide) (by decide) (by decide) e
  rw [show mixT ([49, 48] : Txt) ([51, 48] : Txt) ([49, 47, 52] : Txt) = (([49, 53] : Txt), 0) by decide +kernel] at h9
  have h10 := fun W (e : Env W) => own_clamp ([55, 47, 50] : Txt) 0 3 W (by decide) (by decide) (by decide) (by decide) (by decide) e
  rw [show clampT ([55, 47, 50] : Txt) 0 3 = (([51] : Txt), 0) by decide +kernel] at h10
  have k1 := fun W (e : Env W) => own_rcheck ([50, 47, 52] : Txt) W (by decide) e
  rw [show ratCheck ([50, 47, 52] : Txt) = 3 by decide +kernel] at k1
  have k2 := fun W (e : Env W) => own_rcheck ([51, 47, 49] : Txt) W (by decide) e
  rw [show ratCheck ([51, 47, 49] : Txt) = 3 by decide +kernel] at k2
  have k3 := fun W (e : Env W) => own_rcheck ([49, 47, 45, 50] : Txt) W (by decide) e
  rw [show ratCheck ([49, 47, 45, 50] : Txt) = 3 by decide +kernel] at k3
  have k4 := fun W (e : Env W) => own_rcheck ([45, 48] : Txt) W (by decide) e
  rw [show ratCheck ([45, 48] : Txt) = 3 by decide +kernel] at k4
  have k5 := fun W (e : Env W) => own_rcheck ([48, 49] : Txt) W (by decide) e
  rw [show ratCheck ([48, 49] : Txt) = 3 by decide +kernel] at k5
  have k6 := fun W (e : Env W) => own_rcheck ([45, 49, 47, 50] : Txt) W (by decide) e
  rw [show ratCheck ([45, 49, 47, 50] : Txt) = 0 by decide +kernel] at k6
  dsimp only at h1 h2 h3 h4 h5 h6 h7 h8 h9 h10
  have H1 := Lib.hid h1; clear h1
  have H2 := Lib.hid h2; clear h2
  have H3 := Lib.hid h3; clear h3
  have H4 := Lib.hid h4; clear h4
  have H5 := Lib.hid h5; clear h5
  have H6 := Lib.hid h6; clear h6
  have H7 := Lib.hid h7; clear h7
  have H8 := Lib.hid h8; clear h8
  have H9 := Lib.hid h9; clear h9
  have H10 := Lib.hid h10; clear h10
  have K1 := Lib.hid k1; clear k1
  have K2 := Lib.hid k2; clear k2
  have K3 := Lib.hid k3; clear k3
  have K4 := Lib.hid k4; clear k4
  have K5 := Lib.hid k5; clear k5
  have K6 := Lib.hid k6; clear k6
  have ENV := Lib.hid env; clear env
  have HB := Lib.hid (Below.refl w.heap.size w)
  go_enter Tryz.func47, Tryz.ntmps47
  go_wp2_with (first | (with_reducible refine ((H1.out _ (ENV.out.below HB.out)).mono ?_); rintro e w' ⟨rfl, hb⟩; replace HB := Lib.hid (bch' HB.out hb); clear hb) | (with_reducible refine ((H2.out _ (ENV.out.below HB.out)).mono ?_); rintro e w' ⟨rfl, hb⟩; replace HB := Lib.hid (bch' HB.out hb); clear hb) | (with_reducible refine ((H3.out _ (ENV.out.below HB.out)).mono ?_); rintro e w' ⟨rfl, hb⟩; replace HB := Lib.hid (bch' HB.out hb); clear hb) | (with_reducible refine ((H4.out _ (ENV.out.below HB.out)).mono ?_); rintro e w' ⟨rfl, hb⟩; replace HB := Lib.hid (bch' HB.out hb); clear hb) | (with_reducible refine ((H5.out _ (ENV.out.below HB.out)).mono ?_); rintro e w' ⟨rfl, hb⟩; replace HB := Lib.hid (bch' HB.out hb); clear hb) | (with_reducible refine ((H6.out _ (ENV.out.below HB.out)).mono ?_); rintro e w' ⟨rfl, hb⟩; replace HB := Lib.hid (bch' HB.out hb); clear hb) | (with_reducible refine ((H7.out _ (ENV.out.below HB.out)).mono ?_); rintro e w' ⟨rfl, hb⟩; replace HB := Lib.hid (bch' HB.out hb); clear hb) | (with_reducible refine ((H8.out _ (ENV.out.below HB.out)).mono ?_); rintro e w' ⟨rfl, hb⟩; replace HB := Lib.hid (bch' HB.out hb); clear hb) | (with_reducible refine ((H9.out _ (ENV.out.below HB.out)).mono ?_); rintro e w' ⟨rfl, hb⟩; replace HB := Lib.hid (bch' HB.out hb); clear hb) | (with_reducible refine ((H10.out _ (ENV.out.below HB.out)).mono ?_); rintro e w' ⟨rfl, hb⟩; replace HB := Lib.hid (bch' HB.out hb); clear hb) | (with_reducible refine ((K1.out _ (ENV.out.below HB.out)).mono ?_); rintro e w' ⟨rfl, hb⟩; replace HB := Lib.hid (bch' HB.out hb); clear hb) | (with_reducible refine ((K2.out _ (ENV.out.below HB.out)).mono ?_); rintro e w' ⟨rfl, hb⟩; replace HB := Lib.hid (bch' HB.out hb); clear hb) | (with_reducible refine ((K3.out _ (ENV.out.below HB.out)).mono ?_); rintro e w' ⟨rfl, hb⟩; replace HB := Lib.hid (bch' HB.out hb); clear hb) | (with_reducible refine ((K4.out _ (ENV.out.below HB.out)).mono ?_); rintro e w' ⟨rfl, hb⟩; replace HB := Lib.hid (bch' HB.out hb); clear hb) | (with_reducible refine ((K5.out _ (ENV.out.below HB.out)).mono ?_); rintro e w' ⟨rfl, hb⟩; replace HB := Lib.hid (bch' HB.out hb); clear hb) | (with_reducible refine ((K6.out _ (ENV.out.below HB.out)).mono ?_); rintro e w' ⟨rfl, hb⟩; replace HB := Lib.hid (bch' HB.out hb); clear hb))
  have hcell : ∀ j v, (#[.string ⟨#[50, 47, 52]⟩, .string ⟨#[51, 47, 49]⟩, .string ⟨#[49, 47, 45, 50]⟩, .string ⟨#[45, 48]⟩, .string ⟨#[48, 49]⟩] : Array Value)[j]? = some v → (w'.alloc (.cells #[.string ⟨#[50, 47, 52]⟩, .string ⟨#[51, 47, 49]⟩, .string ⟨#[49, 47, 45, 50]⟩, .string ⟨#[45, 48]⟩, .string ⟨#[48, 49]⟩] 42)).cell? ⟨w'.heap.size, j, none⟩ = some v := fun j v h => by rw [World.cell?_alloc_new]; exact h
  have c0 := hcell 0 _ rfl
  have c1 := hcell 1 _ rfl
  have c2 := hcell 2 _ rfl
  have c3 := hcell 3 _ rfl
  have c4 := hcell 4 _ rfl
  clear hcell
  replace HB := Lib.hid (bch' HB.out ((Below.refl w'.heap.size w').alloc (Nat.le_refl _) (.cells #[.string ⟨#[50, 47, 52]⟩, .string ⟨#[51, 47, 49]⟩, .string ⟨#[49, 47, 45, 50]⟩, .string ⟨#[45, 48]⟩, .string ⟨#[48, 49]⟩] 42)))
  generalize w'.alloc (.cells #[.string ⟨#[50, 47, 52]⟩, .string ⟨#[51, 47, 49]⟩, .string ⟨#[49, 47, 45, 50]⟩, .string ⟨#[45, 48]⟩, .string ⟨#[48, 49]⟩] 42) = W0 at *
  refine wp_loop_rounds 6 ?_
  repeat (rw [rounds_succ]; go_wp2_with (first | (with_reducible refine ((K1.out _ (ENV.out.below HB.out)).mono ?_); rintro e w' ⟨rfl, hb⟩; replace c0 := keepK c0 hb; replace c1 := keepK c1 hb; replace c2 := keepK c2 hb; replace c3 := keepK c3 hb; replace c4 := keepK c4 hb; replace HB := Lib.hid (bch' HB.out hb); clear hb) | (with_reducible refine ((K2.out _ (ENV.out.below HB.out)).mono ?_); rintro e w' ⟨rfl, hb⟩; replace c0 := keepK c0 hb; replace c1 := keepK c1 hb; replace c2 := keepK c2 hb; replace c3 := keepK c3 hb; replace c4 := keepK c4 hb; replace HB := Lib.hid (bch' HB.out hb); clear hb) | (with_reducible refine ((K3.out _ (ENV.out.below HB.out)).mono ?_); rintro e w' ⟨rfl, hb⟩; replace c0 := keepK c0 hb; replace c1 := keepK c1 hb; replace c2 := keepK c2 hb; replace c3 := keepK c3 hb; replace c4 := keepK c4 hb; replace HB := Lib.hid (bch' HB.out hb); clear hb) | (with_reducible refine ((K4.out _ (ENV.out.below HB.out)).mono ?_); rintro e w' ⟨rfl, hb⟩; replace c0 := keepK c0 hb; replace c1 := keepK c1 hb; replace c2 := keepK c2 hb; replace c3 := keepK c3 hb; replace c4 := keepK c4 hb; replace HB := Lib.hid (bch' HB.out hb); clear hb) | (with_reducible refine ((K5.out _ (ENV.out.below HB.out)).mono ?_); rintro e w' ⟨rfl, hb⟩; replace c0 := keepK c0 hb; replace c1 := keepK c1 hb; replace c2 := keepK c2 hb; replace c3 := keepK c3 hb; replace c4 := keepK c4 hb; replace HB := Lib.hid (bch' HB.out hb); clear hb) | (with_reducible refine ((K6.out _ (ENV.out.below HB.out)).mono ?_); rintro e w' ⟨rfl, hb⟩; replace c0 := keepK c0 hb; replace c1 := keepK c1 hb; replace c2 := keepK c2 hb; replace c3 := keepK c3 hb; replace c4 := keepK c4 hb; replace HB := Lib.hid (bch' HB.out hb); clear hb)))
  go_ret
  exact ⟨rfl, HB.out⟩
end Go.Proofs.YtnjaikomoljmjaaGreatDoor
