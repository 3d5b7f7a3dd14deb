/-
  The law RatioClamps: the walk.
-/
import Derived.Test.YtnjaikomoljmjaaGreatDoorLr1
set_option linter.unusedVariables false
set_option linter.unusedSimpArgs false
namespace Lum
open Go Go.RowKit Go.Shelf
open Go.Lib (decDigits itoa)
theorem clampR_low (x : Rat) (lo hi : Int) (h : ¬ hi < lo) : ¬ clampR x lo hi < (lo : Rat) := by
  have h2 : ¬ (hi : Rat) < (lo : Rat) := by rw [Rat.intCast_lt_intCast]; exact h
  unfold clampR least
  split
  · exact Rat.lt_irrefl
  · split <;> assumption
theorem clampR_high (x : Rat) (lo hi : Int) (h : ¬ hi < lo) : ¬ (hi : Rat) < clampR x lo hi := by
  have h2 : ¬ (hi : Rat) < (lo : Rat) := by rw [Rat.intCast_lt_intCast]; exact h
  unfold clampR least
  split
  · exact h2
  · split
    · exact Rat.lt_irrefl
    · assumption
theorem fits_clamp (x : Rat) (lo hi : Int) (k : Nat) (h : Fits k x) (h1 : Fits k (lo : Rat)) (h2 : Fits k (hi : Rat)) : Fits k (clampR x lo hi) := by
  unfold clampR least
  split
  · exact h1
  · split <;> assumption
theorem clampT_zero {a : Txt} {lo hi : Int} (h : (clampT a lo hi).2 = 0) : ratCheck a = 0 ∧ ¬ hi < lo ∧ clampT a lo hi = (showR (clampR (valR a) lo hi), 0) := by
  unfold clampT at h ⊢
  by_cases h1 : ratCheck a = 0
  · rw [if_neg (by simpa using h1)] at h ⊢
    by_cases h2 : hi < lo
    · rw [if_pos h2] at h; cases h
    · rw [if_neg h2] at h ⊢
      by_cases h3 : (cTwo a (itoa lo)).2 = 0
      · rw [if_neg (by simpa using h3)] at h ⊢
        by_cases h4 : (cTwo a (itoa hi)).2 = 0
        · rw [if_neg (by simpa using h4)]; exact ⟨h1, h2, rfl⟩
        · rw [if_pos h4] at h; exact absurd h h4
      · rw [if_pos h3] at h; exact absurd h h3
  · rw [if_pos h1] at h; exact absurd h h1
end Lum
namespace Go.Proofs.YtnjaikomoljmjaaGreatDoor
open Go.RowKit Go.Shelf Lum
open Go.Lib (decDigits itoa)
attribute [local go_sem] bs_get bs_extract_end bs_extract_from bs_extract bs_append

set_option maxRecDepth 100000 in
set_option maxHeartbeats 4000000 in
theorem law_clamps (a : Txt) (lo hi : Int) (w : World) (ha : a.length ≤ 9223372036854775807) (l0 : -9223372036854775808 ≤ lo) (l1 : lo ≤ 9223372036854775807) (g0 : -9223372036854775808 ≤ hi) (g1 : hi ≤ 9223372036854775807) (env : Env w) :
    Calls Tryz.prog 12 #[.string ⟨(a).toArray⟩, .int .i64 lo, .int .i64 hi] w fun e w' => e = .returned (.bool (true)) ∧ Below w.heap.size w w' := by
  have haw := fun W (e : Env W) => law02_awake W e
  by_cases hl : 200 < a.length
  · skip
    have HB := Lib.hid (Below.refl w.heap.size w)
    have ENV := Lib.hid env; clear env
    have HAW := Lib.hid haw; clear haw
    go_enter Tryz.func12, Tryz.ntmps12
    go_wp2_with (first | (with_reducible refine ((HAW.out _ (ENV.out.below HB.out)).mono ?_); rintro e w' ⟨rfl, hb⟩; replace HB := Lib.hid (bch' HB.out hb); clear hb))
    go_ret
    exact ⟨rfl, HB.out⟩
  have la : a.length ≤ 200 := by omega
  clear hl ha
  have hx := fun W (e : Env W) => own_clamp a lo hi W (by omega) l0 l1 g0 g1 e
  have gx := fun W => r2_clamp a lo hi W (by omega) l0 l1 g0 g1
  by_cases hz : (clampT a lo hi).2 = 0
  · obtain ⟨h1, h2, h3⟩ := clampT_zero hz
    obtain ⟨x, rfl, fx⟩ := ratCheck_zero a h1
    rw [valR_showR] at h3
    rw [h3] at hx gx
    dsimp only at hx gx
    have f1 := (fits_i64 lo l0 l1).mono (show 19 ≤ 9000 by omega)
    have f2 := (fits_i64 hi g0 g1).mono (show 19 ≤ 9000 by omega)
    have f3 := fits_clamp x lo hi 9000 (fit_of_fits fx _ (by omega)) f1 f2
    have hwl := fun W => r2_whole lo W l0 l1
    have hwh := fun W => r2_whole hi W g0 g1
    have hol := fun W => r2_order (clampR x lo hi) (lo : Rat) W f3 f1
    have hoh := fun W => r2_order (clampR x lo hi) (hi : Rat) W f3 f2
    rw [showR_int] at hol hoh
    have d1 : ¬ sgn (clampR x lo hi) (lo : Rat) < 0 := mt (sgn_lt _ _).1 (clampR_low x lo hi h2)
    have d2 : ¬ 0 < sgn (clampR x lo hi) (hi : Rat) := mt (sgn_gt _ _).1 (clampR_high x lo hi h2)
    clear hz h1 h2 h3 f1 f2 f3 fx l0 l1 g0 g1
    generalize sgn (clampR x lo hi) (lo : Rat) = s1 at *
    generalize sgn (clampR x lo hi) (hi : Rat) = s2 at *
    generalize showR (clampR x lo hi) = z at *
    generalize showR x = a at *
    have HAW := Lib.hid haw; clear haw
    have HX := Lib.hid hx; clear hx
    have GX := Lib.hid gx; clear gx
    have HWL := Lib.hid hwl; clear hwl
    have HWH := Lib.hid hwh; clear hwh
    have HOL := Lib.hid hol; clear hol
    have HOH := Lib.hid hoh; clear hoh
    have ENV := Lib.hid env; clear env
    have HB := Lib.hid (Below.refl w.heap.size w)
    go_enter Tryz.func12, Tryz.ntmps12
    go_wp2_with (first | (with_reducible refine ((HAW.out _ (ENV.out.below HB.out)).mono ?_); rintro e w' ⟨rfl, hb⟩; replace HB := Lib.hid (bch' HB.out hb); clear hb) | (with_reducible refine ((HX.out _ (ENV.out.below HB.out)).mono ?_); rintro e w' ⟨rfl, hb⟩; replace HB := Lib.hid (bch' HB.out hb); clear hb) | (with_reducible refine ((GX.out _).mono ?_); rintro e w' ⟨rfl, hb⟩; replace HB := Lib.hid (bch' HB.out hb); clear hb) | (with_reducible refine ((HWL.out _).mono ?_); rintro e w' ⟨rfl, hb⟩; replace HB := Lib.hid (bch' HB.out hb); clear hb) | (with_reducible refine ((HWH.out _).mono ?_); rintro e w' ⟨rfl, hb⟩; replace HB := Lib.hid (bch' HB.out hb); clear hb) | (with_reducible refine ((HOL.out _).mono ?_); rintro e w' ⟨rfl, hb⟩; replace HB := Lib.hid (bch' HB.out hb); clear hb) | (with_reducible refine ((HOH.out _).mono ?_); rintro e w' ⟨rfl, hb⟩; replace HB := Lib.hid (bch' HB.out hb); clear hb))
    go_ret
    exact ⟨rfl, HB.out⟩
  · generalize clampT a lo hi = v at *
    obtain ⟨n, m⟩ := v
    dsimp only at hx gx hz
    have hne : ((m : Int) != 0) = true := by simpa using hz
    clear hz l0 l1 g0 g1
    have HAW := Lib.hid haw; clear haw
    have HX := Lib.hid hx; clear hx
    have GX := Lib.hid gx; clear gx
    have ENV := Lib.hid env; clear env
    have HB := Lib.hid (Below.refl w.heap.size w)
    go_enter Tryz.func12, Tryz.ntmps12
    go_wp2_with (first | (with_reducible refine ((HAW.out _ (ENV.out.below HB.out)).mono ?_); rintro e w' ⟨rfl, hb⟩; replace HB := Lib.hid (bch' HB.out hb); clear hb) | (with_reducible refine ((HX.out _ (ENV.out.below HB.out)).mono ?_); rintro e w' ⟨rfl, hb⟩; replace HB := Lib.hid (bch' HB.out hb); clear hb) | (with_reducible refine ((GX.out _).mono ?_); rintro e w' ⟨rfl, hb⟩; replace HB := Lib.hid (bch' HB.out hb); clear hb))
    go_ret
    exact ⟨rfl, HB.out⟩
end Go.Proofs.YtnjaikomoljmjaaGreatDoor
