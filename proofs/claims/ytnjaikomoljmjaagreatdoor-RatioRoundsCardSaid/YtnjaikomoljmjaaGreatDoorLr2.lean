/-
  The law RatioRounds: the walk.
-/
import Derived.Test.YtnjaikomoljmjaaGreatDoorLr1
set_option linter.unusedVariables false
set_option linter.unusedSimpArgs false
namespace Go.Proofs.YtnjaikomoljmjaaGreatDoor
open Go.RowKit Go.Shelf Lum
open Go.Lib (decDigits itoa)
attribute [local go_sem] bs_get bs_extract_end bs_extract_from bs_extract bs_append

set_option maxRecDepth 100000 in
set_option maxHeartbeats 4000000 in
theorem law_rounds (a : Txt) (w : World) (ha : a.length ≤ 9223372036854775807) (env : Env w) :
    Calls Tryz.prog 17 #[.string ⟨(a).toArray⟩] w fun e w' => e = .returned (.bool (true)) ∧ Below w.heap.size w w' := by
  have haw := fun W (e : Env W) => law02_awake W e
  by_cases hl : 300 < a.length
  · have HB := Lib.hid (Below.refl w.heap.size w)
    have ENV := Lib.hid env; clear env
    have HAW := Lib.hid haw; clear haw
    go_enter Tryz.func17, Tryz.ntmps17
    go_wp2_with (first | (with_reducible refine ((HAW.out _ (ENV.out.below HB.out)).mono ?_); rintro e w' ⟨rfl, hb⟩; replace HB := Lib.hid (bch' HB.out hb); clear hb))
    go_ret
    exact ⟨rfl, HB.out⟩
  have hl2 : a.length ≤ 300 := by omega
  clear hl
  have hc := fun W => r2_check a W (by omega)
  have h1 := fun W (e : Env W) => own_rneg a W (by omega) e
  have h2 := fun W (e : Env W) => own_floor a W (by omega) e
  have h3 := fun W (e : Env W) => own_round a W (by omega) e
  unfold negR at h1
  unfold floorT at h2
  unfold roundT at h3
  by_cases hz : ratCheck a = 0
  · rw [if_neg (by simpa using hz)] at h1 h2 h3
    rw [hz] at hc
    obtain ⟨x, rfl, fx⟩ := ratCheck_zero a hz
    rw [valR_showR] at h1 h2 h3
    have ht := fun W => r2_turned x W (fit_of_fits fx _ (by omega))
    have hd := fun W => r2_down x W (fit_of_fits fx _ (by omega))
    have hn := fun W => r2_near x W (fit_of_fits fx _ (by omega))
    clear hz fx
    dsimp only at h1 h2 h3
    generalize itoa (near x) = tn at *
    generalize itoa (flr x) = td at *
    generalize showR (-x) = tt at *
    generalize showR x = a at *
    have HAW := Lib.hid haw; clear haw
    have HC := Lib.hid hc; clear hc
    have H1 := Lib.hid h1; clear h1
    have H2 := Lib.hid h2; clear h2
    have H3 := Lib.hid h3; clear h3
    have HT := Lib.hid ht; clear ht
    have HD := Lib.hid hd; clear hd
    have HN := Lib.hid hn; clear hn
    have ENV := Lib.hid env; clear env
    have HB := Lib.hid (Below.refl w.heap.size w)
    go_enter Tryz.func17, Tryz.ntmps17
    go_wp2_with (first | (with_reducible refine ((HAW.out _ (ENV.out.below HB.out)).mono ?_); rintro e w' ⟨rfl, hb⟩; replace HB := Lib.hid (bch' HB.out hb); clear hb) | (with_reducible refine ((HC.out _).mono ?_); rintro e w' ⟨rfl, hb⟩; replace HB := Lib.hid (bch' HB.out hb); clear hb) | (with_reducible refine ((H1.out _ (ENV.out.below HB.out)).mono ?_); rintro e w' ⟨rfl, hb⟩; replace HB := Lib.hid (bch' HB.out hb); clear hb) | (with_reducible refine ((H2.out _ (ENV.out.below HB.out)).mono ?_); rintro e w' ⟨rfl, hb⟩; replace HB := Lib.hid (bch' HB.out hb); clear hb) | (with_reducible refine ((H3.out _ (ENV.out.below HB.out)).mono ?_); rintro e w' ⟨rfl, hb⟩; replace HB := Lib.hid (bch' HB.out hb); clear hb) | (with_reducible refine ((HT.out _).mono ?_); rintro e w' ⟨rfl, rfl⟩) | (with_reducible refine ((HD.out _).mono ?_); rintro e w' ⟨rfl, hb⟩; replace HB := Lib.hid (bch' HB.out hb); clear hb) | (with_reducible refine ((HN.out _).mono ?_); rintro e w' ⟨rfl, hb⟩; replace HB := Lib.hid (bch' HB.out hb); clear hb))
    go_ret
    exact ⟨rfl, HB.out⟩
  · rw [if_pos hz] at h1 h2 h3
    have hne : ((ratCheck a : Int) != 0) = true := by simpa using hz
    generalize ratCheck a = m at *
    clear hz
    dsimp only at h1 h2 h3
    have HAW := Lib.hid haw; clear haw
    have HC := Lib.hid hc; clear hc
    have H1 := Lib.hid h1; clear h1
    have H2 := Lib.hid h2; clear h2
    have H3 := Lib.hid h3; clear h3
    have ENV := Lib.hid env; clear env
    have HB := Lib.hid (Below.refl w.heap.size w)
    go_enter Tryz.func17, Tryz.ntmps17
    go_wp2_with (first | (with_reducible refine ((HAW.out _ (ENV.out.below HB.out)).mono ?_); rintro e w' ⟨rfl, hb⟩; replace HB := Lib.hid (bch' HB.out hb); clear hb) | (with_reducible refine ((HC.out _).mono ?_); rintro e w' ⟨rfl, hb⟩; replace HB := Lib.hid (bch' HB.out hb); clear hb) | (with_reducible refine ((H1.out _ (ENV.out.below HB.out)).mono ?_); rintro e w' ⟨rfl, hb⟩; replace HB := Lib.hid (bch' HB.out hb); clear hb) | (with_reducible refine ((H2.out _ (ENV.out.below HB.out)).mono ?_); rintro e w' ⟨rfl, hb⟩; replace HB := Lib.hid (bch' HB.out hb); clear hb) | (with_reducible refine ((H3.out _ (ENV.out.below HB.out)).mono ?_); rintro e w' ⟨rfl, hb⟩; replace HB := Lib.hid (bch' HB.out hb); clear hb))
    go_ret
    exact ⟨rfl, HB.out⟩
end Go.Proofs.YtnjaikomoljmjaaGreatDoor
