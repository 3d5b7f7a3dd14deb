/-
  The law ClockReturns: the walk.
-/
import Derived.Test.YtnjaikomoljmjaaGreatDoorLw5
set_option linter.unusedVariables false
set_option linter.unusedSimpArgs false
namespace Lum
open Go Go.RowKit Go.Shelf
open Go.Lib (decDigits itoa)
theorem sh_back {E R L s : Int} (h : ckB E R 1 L = true) (h1 : ¬ s < L) : shZ E R 1 L s = E + (s - L) * R := by
  obtain ⟨h1', h2', h3, h4⟩ := (ckB_iff _ _ _ _).1 h
  unfold shZ
  have p1 : 0 ≤ (s - L) * R := Int.mul_nonneg (by omega) (by omega)
  rw [Int.one_mul, Int.mul_comm R]
  omega
theorem sh_returns {E R L s : Int} (h : ckB E R 1 L = true) (h1 : ¬ s < L) : shZ (shZ E R 1 L s) R (-1) s (2 * s - L) = E := by
  obtain ⟨h1', h2', h3, h4⟩ := (ckB_iff _ _ _ _).1 h
  rw [sh_back h h1]
  unfold shZ
  have e : -1 * R * (2 * s - L - s) = -((s - L) * R) := by
    rw [show 2 * s - L - s = s - L by omega, Int.mul_comm (s - L), Int.mul_assoc, Int.neg_one_mul]
  rw [e]; omega
theorem sh_here {E R s : Int} (D : Int) (h : 0 ≤ E) : shZ E R D s s = E := by
  unfold shZ; rw [Int.sub_self, Int.mul_zero]; omega
theorem when_returns {E R L s p : Int} (h : ckB E R 1 L = true) (h1 : ¬ s < L) (hc : ckB (shZ E R 1 L s) p (-1) s = true) : whenT (shZ E R 1 L s) p (-1) s E = (showR ((s : Rat) + Rat.divInt ((s - L) * R) p), true, 0) := by
  obtain ⟨h1', h2', h3, h4⟩ := (ckB_iff _ _ _ _).1 h
  have p1 : 0 ≤ (s - L) * R := Int.mul_nonneg (by omega) (by omega)
  unfold whenT
  have hr : rdB E = true := (rdB_iff _).2 h1'
  rw [hc, hr, if_neg (by simp), if_neg (by simp), sh_back h h1]
  have e : E - (E + (s - L) * R) = -((s - L) * R) := by omega
  rw [e, if_neg (by omega), Int.neg_neg, Int.max_eq_right (by omega)]
end Lum
namespace Go.Proofs.YtnjaikomoljmjaaGreatDoor
open Go.RowKit Go.Shelf Lum
open Go.Lib (decDigits itoa)
attribute [local go_sem] bs_get bs_extract_end bs_extract_from bs_extract bs_append

set_option maxRecDepth 100000 in
set_option maxHeartbeats 8000000 in
theorem law_returns (E R D L s z : Int) (w : World) (z0 : 0 ≤ z) (z1 : z ≤ 65535) (env : Env w) :
    Calls Tryz.prog 4 #[.agg #[.int .i64 E, .int .i64 R, .int .i64 D, .int .i64 L], .int .i64 s, .int .u16 z] w fun e w' => e = .returned (.bool (true)) ∧ Below w.heap.size w w' := by
  have hx := CBox.new w 23 E R D L
  have hb := (Below.refl w.heap.size w).alloc (Nat.le_refl _) (.cells #[.int .i64 E, .int .i64 R, .int .i64 D, .int .i64 L] 23)
  have ENV := Lib.hid env; clear env
  have haw := fun W (e : Env W) => law23_awake W e
  have hc := fun W => r23_check E R D L W
  have ht1 := fun W => r23_time s W
  have ht2 := fun W => r23_time (2 * s - L) W
  unfold ckE at hc
  cases hck : ckB E R D L
  · rw [hck] at hc
    simp only [Bool.false_eq_true, if_false] at hc
    clear hck
    have HC := Lib.hid hc; clear hc
    have HT1 := Lib.hid ht1; clear ht1
    have HT2 := Lib.hid ht2; clear ht2
    have HAW := Lib.hid haw; clear haw
    go_enter Tryz.func4, Tryz.ntmps4
    go_wp2_with fail
    generalize w.alloc (.cells #[.int .i64 E, .int .i64 R, .int .i64 D, .int .i64 L] 23) = W0 at *
    have HX := Lib.hid hx
    have HB := Lib.hid hb; clear hb
    obtain ⟨c0, c1, c2, c3, d0, d1, d2, d3, cl⟩ := hx
    go_wp2_with (first | (with_reducible refine ((HC.out _).mono ?_); rintro e w' ⟨rfl, hb⟩; replace HX := Lib.hid (HX.out.keep hb); replace HB := Lib.hid (bch' HB.out hb); clear hb; clear c0 c1 c2 c3 d0 d1 d2 d3 cl; obtain ⟨c0, c1, c2, c3, d0, d1, d2, d3, cl⟩ := HX.out) | (with_reducible refine ((HAW.out _ (ENV.out.below HB.out)).mono ?_); rintro e w' ⟨rfl, hb⟩; replace HX := Lib.hid (HX.out.keep hb); replace HB := Lib.hid (bch' HB.out hb); clear hb; clear c0 c1 c2 c3 d0 d1 d2 d3 cl; obtain ⟨c0, c1, c2, c3, d0, d1, d2, d3, cl⟩ := HX.out))
    go_ret
    exact ⟨rfl, HB.out⟩
  rw [hck] at hc
  simp only [if_true] at hc
  by_cases hD : D = 1
  case neg =>
    have hD1 : ((D : Int) != 1) = true := by simpa using hD
    clear hck hD
    have HC := Lib.hid hc; clear hc
    have HT1 := Lib.hid ht1; clear ht1
    have HT2 := Lib.hid ht2; clear ht2
    have HAW := Lib.hid haw; clear haw
    go_enter Tryz.func4, Tryz.ntmps4
    go_wp2_with fail
    generalize w.alloc (.cells #[.int .i64 E, .int .i64 R, .int .i64 D, .int .i64 L] 23) = W0 at *
    have HX := Lib.hid hx
    have HB := Lib.hid hb; clear hb
    obtain ⟨c0, c1, c2, c3, d0, d1, d2, d3, cl⟩ := hx
    go_wp2_with (first | (with_reducible refine ((HC.out _).mono ?_); rintro e w' ⟨rfl, hb⟩; replace HX := Lib.hid (HX.out.keep hb); replace HB := Lib.hid (bch' HB.out hb); clear hb; clear c0 c1 c2 c3 d0 d1 d2 d3 cl; obtain ⟨c0, c1, c2, c3, d0, d1, d2, d3, cl⟩ := HX.out) | (with_reducible refine ((HAW.out _ (ENV.out.below HB.out)).mono ?_); rintro e w' ⟨rfl, hb⟩; replace HX := Lib.hid (HX.out.keep hb); replace HB := Lib.hid (bch' HB.out hb); clear hb; clear c0 c1 c2 c3 d0 d1 d2 d3 cl; obtain ⟨c0, c1, c2, c3, d0, d1, d2, d3, cl⟩ := HX.out))
    go_ret
    exact ⟨rfl, HB.out⟩
  subst hD
  cases h1 : wiB s 0 10000000
  · rw [h1] at ht1
    clear hck h1
    have HC := Lib.hid hc; clear hc
    have HT1 := Lib.hid ht1; clear ht1
    have HT2 := Lib.hid ht2; clear ht2
    have HAW := Lib.hid haw; clear haw
    go_enter Tryz.func4, Tryz.ntmps4
    go_wp2_with fail
    generalize w.alloc (.cells #[.int .i64 E, .int .i64 R, .int .i64 1, .int .i64 L] 23) = W0 at *
    have HX := Lib.hid hx
    have HB := Lib.hid hb; clear hb
    obtain ⟨c0, c1, c2, c3, d0, d1, d2, d3, cl⟩ := hx
    go_wp2_with (first | (with_reducible refine ((HC.out _).mono ?_); rintro e w' ⟨rfl, hb⟩; replace HX := Lib.hid (HX.out.keep hb); replace HB := Lib.hid (bch' HB.out hb); clear hb; clear c0 c1 c2 c3 d0 d1 d2 d3 cl; obtain ⟨c0, c1, c2, c3, d0, d1, d2, d3, cl⟩ := HX.out) | (with_reducible refine ((HT1.out _).mono ?_); rintro e w' ⟨rfl, rfl⟩) | (with_reducible refine ((HAW.out _ (ENV.out.below HB.out)).mono ?_); rintro e w' ⟨rfl, hb⟩; replace HX := Lib.hid (HX.out.keep hb); replace HB := Lib.hid (bch' HB.out hb); clear hb; clear c0 c1 c2 c3 d0 d1 d2 d3 cl; obtain ⟨c0, c1, c2, c3, d0, d1, d2, d3, cl⟩ := HX.out))
    go_ret
    exact ⟨rfl, HB.out⟩
  rw [h1] at ht1
  obtain ⟨bE, bL, bR, bD⟩ := (ckB_iff _ _ _ _).1 hck
  have bs := (wiB_iff _ _ _).1 h1
  by_cases h3 : s < L
  · clear hck h1
    have HC := Lib.hid hc; clear hc
    have HT1 := Lib.hid ht1; clear ht1
    have HT2 := Lib.hid ht2; clear ht2
    have HAW := Lib.hid haw; clear haw
    go_enter Tryz.func4, Tryz.ntmps4
    go_wp2_with fail
    generalize w.alloc (.cells #[.int .i64 E, .int .i64 R, .int .i64 1, .int .i64 L] 23) = W0 at *
    have HX := Lib.hid hx
    have HB := Lib.hid hb; clear hb
    obtain ⟨c0, c1, c2, c3, d0, d1, d2, d3, cl⟩ := hx
    go_wp2_with (first | (with_reducible refine ((HC.out _).mono ?_); rintro e w' ⟨rfl, hb⟩; replace HX := Lib.hid (HX.out.keep hb); replace HB := Lib.hid (bch' HB.out hb); clear hb; clear c0 c1 c2 c3 d0 d1 d2 d3 cl; obtain ⟨c0, c1, c2, c3, d0, d1, d2, d3, cl⟩ := HX.out) | (with_reducible refine ((HT1.out _).mono ?_); rintro e w' ⟨rfl, rfl⟩) | (with_reducible refine ((HAW.out _ (ENV.out.below HB.out)).mono ?_); rintro e w' ⟨rfl, hb⟩; replace HX := Lib.hid (HX.out.keep hb); replace HB := Lib.hid (bch' HB.out hb); clear hb; clear c0 c1 c2 c3 d0 d1 d2 d3 cl; obtain ⟨c0, c1, c2, c3, d0, d1, d2, d3, cl⟩ := HX.out))
    go_ret
    exact ⟨rfl, HB.out⟩
  cases h2 : wiB (2 * s - L) 0 10000000
  · rw [h2] at ht2
    clear hck h1 h2
    have HC := Lib.hid hc; clear hc
    have HT1 := Lib.hid ht1; clear ht1
    have HT2 := Lib.hid ht2; clear ht2
    have HAW := Lib.hid haw; clear haw
    go_enter Tryz.func4, Tryz.ntmps4
    go_wp2_with fail
    generalize w.alloc (.cells #[.int .i64 E, .int .i64 R, .int .i64 1, .int .i64 L] 23) = W0 at *
    have HX := Lib.hid hx
    have HB := Lib.hid hb; clear hb
    obtain ⟨c0, c1, c2, c3, d0, d1, d2, d3, cl⟩ := hx
    go_wp2_with (first | (with_reducible refine ((HC.out _).mono ?_); rintro e w' ⟨rfl, hb⟩; replace HX := Lib.hid (HX.out.keep hb); replace HB := Lib.hid (bch' HB.out hb); clear hb; clear c0 c1 c2 c3 d0 d1 d2 d3 cl; obtain ⟨c0, c1, c2, c3, d0, d1, d2, d3, cl⟩ := HX.out) | (with_reducible refine ((HT1.out _).mono ?_); rintro e w' ⟨rfl, rfl⟩) | (with_reducible refine ((HT2.out _).mono ?_); rintro e w' ⟨rfl, rfl⟩) | (with_reducible refine ((HAW.out _ (ENV.out.below HB.out)).mono ?_); rintro e w' ⟨rfl, hb⟩; replace HX := Lib.hid (HX.out.keep hb); replace HB := Lib.hid (bch' HB.out hb); clear hb; clear c0 c1 c2 c3 d0 d1 d2 d3 cl; obtain ⟨c0, c1, c2, c3, d0, d1, d2, d3, cl⟩ := HX.out))
    go_ret
    exact ⟨rfl, HB.out⟩
  rw [h2] at ht2
  have hs := fun W => r23_shown E R 1 L s W hck ((wiB_iff _ _ _).1 h1) (by omega)
  have hr := fun W => r23_reading (shZ E R 1 L s) W
  cases h5 : rdB (shZ E R 1 L s)
  · rw [h5] at hr
    clear hck h1 h2 h5
    generalize shZ E R 1 L s = sh at *
    have HC := Lib.hid hc; clear hc
    have HT1 := Lib.hid ht1; clear ht1
    have HT2 := Lib.hid ht2; clear ht2
    have HAW := Lib.hid haw; clear haw
    have HS := Lib.hid hs; clear hs
    have HR := Lib.hid hr; clear hr
    go_enter Tryz.func4, Tryz.ntmps4
    go_wp2_with fail
    generalize w.alloc (.cells #[.int .i64 E, .int .i64 R, .int .i64 1, .int .i64 L] 23) = W0 at *
    have HX := Lib.hid hx
    have HB := Lib.hid hb; clear hb
    obtain ⟨c0, c1, c2, c3, d0, d1, d2, d3, cl⟩ := hx
    go_wp2_with (first | (with_reducible refine ((HC.out _).mono ?_); rintro e w' ⟨rfl, hb⟩; replace HX := Lib.hid (HX.out.keep hb); replace HB := Lib.hid (bch' HB.out hb); clear hb; clear c0 c1 c2 c3 d0 d1 d2 d3 cl; obtain ⟨c0, c1, c2, c3, d0, d1, d2, d3, cl⟩ := HX.out) | (with_reducible refine ((HT1.out _).mono ?_); rintro e w' ⟨rfl, rfl⟩) | (with_reducible refine ((HT2.out _).mono ?_); rintro e w' ⟨rfl, rfl⟩) | (with_reducible refine ((HS.out _).mono ?_); rintro e w' ⟨rfl, hb⟩; replace HX := Lib.hid (HX.out.keep hb); replace HB := Lib.hid (bch' HB.out hb); clear hb; clear c0 c1 c2 c3 d0 d1 d2 d3 cl; obtain ⟨c0, c1, c2, c3, d0, d1, d2, d3, cl⟩ := HX.out) | (with_reducible refine ((HR.out _).mono ?_); rintro e w' ⟨rfl, rfl⟩) | (with_reducible refine ((HAW.out _ (ENV.out.below HB.out)).mono ?_); rintro e w' ⟨rfl, hb⟩; replace HX := Lib.hid (HX.out.keep hb); replace HB := Lib.hid (bch' HB.out hb); clear hb; clear c0 c1 c2 c3 d0 d1 d2 d3 cl; obtain ⟨c0, c1, c2, c3, d0, d1, d2, d3, cl⟩ := HX.out))
    go_ret
    exact ⟨rfl, HB.out⟩
  rw [h5] at hr
  have m1 := moE_ok hck h1 h3
  have sh0 := ((rdB_iff _).1 h5).1
  have ck2 : ckB (shZ E R 1 L s) R (-1) s = true := (ckB_iff _ _ _ _).2 ⟨(rdB_iff _).1 h5, bs, bR, by omega, by omega⟩
  have m2 := moE_ok ck2 h2 (show ¬ 2 * s - L < s by omega)
  have m3 := moE_ok ck2 h1 (show ¬ s < s by omega)
  have hv := fun W => own_clk_reverse E R 1 L s W
  rw [chgT_ok _ m1 h5] at hv
  have a1 := fun W => at_val (shZ E R 1 L s) R (-1) s (2 * s - L) _ m2 (sh_returns hck h3) W
  obtain ⟨p, hp⟩ : ∃ p, p = 1 + z % 400 := ⟨_, rfl⟩
  have bp : 1 ≤ p ∧ p ≤ 400 := by omega
  have hq := fun W => own_clk_rate (shZ E R 1 L s) R (-1) s s p W
  rw [(wiB_iff _ _ _).2 bp, chgT_ok _ m3 (by rw [sh_here _ sh0]; exact h5), sh_here _ sh0] at hq
  unfold clkV at hv hq
  dsimp only at hv hq
  have ck3 : ckB (shZ E R 1 L s) p (-1) s = true := (ckB_iff _ _ _ _).2 ⟨(rdB_iff _).1 h5, bs, bp, by omega, by omega⟩
  have hw := fun W (e : Env W) => own_clk_when (shZ E R 1 L s) p (-1) s E W e
  rw [when_returns hck h3 ck3] at hw
  dsimp only at hw
  have bm : 0 ≤ (s - L) * R ∧ (s - L) * R ≤ 4000000000 := ⟨Int.mul_nonneg (by omega) (by omega), by
    have := Int.mul_le_mul (show s - L ≤ 10000000 by omega) (show R ≤ 400 by omega) (by omega) (by omega)
    omega⟩
  have hwh := fun W => r2_whole s W (by omega) (by omega)
  have hov := fun W => r2_over ((s - L) * R) p W (by omega) (by omega) (by omega) (by omega) (by omega)
  have hpl := fun W => r2_plus (s : Rat) (Rat.divInt ((s - L) * R) p) W ((fits_i64 s (by omega) (by omega)).mono (by omega)) ((fits_divInt_i64 _ p (by omega) (by omega) (by omega) (by omega)).mono (by omega))
  rw [showR_int] at hpl
  clear hck h1 h2 h5 m1 m2 m3 ck2 ck3 sh0
  generalize shZ E R 1 L s = sh at *
  have HC := Lib.hid hc; clear hc
  have HT1 := Lib.hid ht1; clear ht1
  have HT2 := Lib.hid ht2; clear ht2
  have HAW := Lib.hid haw; clear haw
  have HS := Lib.hid hs; clear hs
  have HR := Lib.hid hr; clear hr
  have HV := Lib.hid hv; clear hv
  have A1 := Lib.hid a1; clear a1
  have HQ := Lib.hid hq; clear hq
  have HW := Lib.hid hw; clear hw
  have HWH := Lib.hid hwh; clear hwh
  have HOV := Lib.hid hov; clear hov
  have HPL := Lib.hid hpl; clear hpl
  go_enter Tryz.func4, Tryz.ntmps4
  go_wp2_with fail
  generalize w.alloc (.cells #[.int .i64 E, .int .i64 R, .int .i64 1, .int .i64 L] 23) = W0 at *
  have HX := Lib.hid hx
  have HB := Lib.hid hb; clear hb
  obtain ⟨c0, c1, c2, c3, d0, d1, d2, d3, cl⟩ := hx
  go_wp2_with (first | (with_reducible refine ((HC.out _).mono ?_); rintro e w' ⟨rfl, hb⟩; replace HX := Lib.hid (HX.out.keep hb); replace HB := Lib.hid (bch' HB.out hb); clear hb; clear c0 c1 c2 c3 d0 d1 d2 d3 cl; obtain ⟨c0, c1, c2, c3, d0, d1, d2, d3, cl⟩ := HX.out) | (with_reducible refine ((HT1.out _).mono ?_); rintro e w' ⟨rfl, rfl⟩) | (with_reducible refine ((HT2.out _).mono ?_); rintro e w' ⟨rfl, rfl⟩) | (with_reducible refine ((HS.out _).mono ?_); rintro e w' ⟨rfl, hb⟩; replace HX := Lib.hid (HX.out.keep hb); replace HB := Lib.hid (bch' HB.out hb); clear hb; clear c0 c1 c2 c3 d0 d1 d2 d3 cl; obtain ⟨c0, c1, c2, c3, d0, d1, d2, d3, cl⟩ := HX.out) | (with_reducible refine ((HR.out _).mono ?_); rintro e w' ⟨rfl, rfl⟩))
  refine ((HV.out _).mono ?_)
  rintro e w1 ⟨rfl, hb⟩
  have hal := (Below.refl w1.heap.size w1).alloc (Nat.le_refl _) (.cells #[.int .i64 sh, .int .i64 R, .int .i64 (-1), .int .i64 s] 23)
  replace HX := Lib.hid ((HX.out.keep hb).keep hal)
  have BM := Lib.hid (CBox.new w1 23 sh R (-1) s)
  replace HB := Lib.hid (bch' (bch' HB.out hb) hal); clear hb hal
  clear c0 c1 c2 c3 d0 d1 d2 d3 cl
  obtain ⟨c0, c1, c2, c3, d0, d1, d2, d3, cl⟩ := HX.out; obtain ⟨m0, m1, m2, m3, n0, n1, n2, n3, ml⟩ := BM.out
  go_wp2_with fail
  generalize w1.alloc (.cells #[.int .i64 sh, .int .i64 R, .int .i64 (-1), .int .i64 s] 23) = W1 at *
  go_wp2_with (first | (with_reducible refine ((A1.out _).mono ?_); rintro e w' ⟨rfl, hb⟩; replace HX := Lib.hid (HX.out.keep hb); replace BM := Lib.hid (BM.out.keep hb); replace HB := Lib.hid (bch' HB.out hb); clear hb; clear c0 c1 c2 c3 d0 d1 d2 d3 cl; clear m0 m1 m2 m3 n0 n1 n2 n3 ml; obtain ⟨c0, c1, c2, c3, d0, d1, d2, d3, cl⟩ := HX.out; obtain ⟨m0, m1, m2, m3, n0, n1, n2, n3, ml⟩ := BM.out))
  rw [← hp]; clear hp z0 z1
  refine ((HQ.out _).mono ?_)
  rintro e w3 ⟨rfl, hb⟩
  have hal := (Below.refl w3.heap.size w3).alloc (Nat.le_refl _) (.cells #[.int .i64 sh, .int .i64 p, .int .i64 (-1), .int .i64 s] 23)
  replace HX := Lib.hid ((HX.out.keep hb).keep hal)
  replace BM := Lib.hid ((BM.out.keep hb).keep hal)
  have BQ := Lib.hid (CBox.new w3 23 sh p (-1) s)
  replace HB := Lib.hid (bch' (bch' HB.out hb) hal); clear hb hal
  clear c0 c1 c2 c3 d0 d1 d2 d3 cl; clear m0 m1 m2 m3 n0 n1 n2 n3 ml
  obtain ⟨c0, c1, c2, c3, d0, d1, d2, d3, cl⟩ := HX.out; obtain ⟨m0, m1, m2, m3, n0, n1, n2, n3, ml⟩ := BM.out; obtain ⟨p0, p1, p2, p3, q0, q1, q2, q3, pl⟩ := BQ.out
  go_wp2_with fail
  generalize w3.alloc (.cells #[.int .i64 sh, .int .i64 p, .int .i64 (-1), .int .i64 s] 23) = W3 at *
  have hw1 : IntKind.i64.wrap (s - L) = s - L := IntWalk.i64_in _ ⟨by omega, by omega⟩
  have hw2 : IntKind.i64.wrap ((s - L) * R) = (s - L) * R := IntWalk.i64_in _ ⟨by omega, by omega⟩
  refine ((HW.out _ (ENV.out.below HB.out)).mono ?_); rintro e w4 ⟨rfl, hb⟩
  replace HX := Lib.hid (HX.out.keep hb)
  replace BQ := Lib.hid (BQ.out.keep hb)
  replace HB := Lib.hid (bch' HB.out hb); clear hb
  clear c0 c1 c2 c3 d0 d1 d2 d3 cl; clear p0 p1 p2 p3 q0 q1 q2 q3 pl
  obtain ⟨c0, c1, c2, c3, d0, d1, d2, d3, cl⟩ := HX.out; obtain ⟨p0, p1, p2, p3, q0, q1, q2, q3, pl⟩ := BQ.out
  go_wp2_with fail
  have hS0 : Below w.heap.size w w4.drew ∧ w4.drew.cell? ⟨w.heap.size, 0, none⟩ = some (.int .i64 E) ∧ w4.drew.cell? ⟨w.heap.size, 1, none⟩ = some (.int .i64 R) ∧ w4.drew.cell? ⟨w.heap.size, 2, none⟩ = some (.int .i64 1) ∧ w4.drew.cell? ⟨w.heap.size, 3, none⟩ = some (.int .i64 L) := ⟨HB.out.drew, HX.out.a0, HX.out.a1, HX.out.a2, HX.out.a3⟩
  have HS0 := Lib.hid hS0; clear hS0
  go_region_held3 (fun W' => Below w.heap.size w W' ∧ W'.cell? ⟨w.heap.size, 0, none⟩ = some (.int .i64 E) ∧ W'.cell? ⟨w.heap.size, 1, none⟩ = some (.int .i64 R) ∧ W'.cell? ⟨w.heap.size, 2, none⟩ = some (.int .i64 1) ∧ W'.cell? ⟨w.heap.size, 3, none⟩ = some (.int .i64 L)) (first | assumption | exact HS0.out | exact keepC (by assumption) (by assumption)) (first | (go_at_call 32; refine (HWH.out _).mono ?_; rintro e w' ⟨rfl, hbw⟩) | (go_at_call 33; refine (HOV.out _).mono ?_; rintro e w' ⟨rfl, hbw⟩) | (go_at_call 31; refine (HPL.out _).mono ?_; rintro e w' ⟨rfl, hbw⟩))
  all_goals
    go_wp2_with fail
    refine ((HAW.out _ (ENV.out.below (And.left (by assumption)))).mono ?_); rintro e w' ⟨rfl, hb⟩
    go_wp2_with fail
    go_ret
    exact ⟨rfl, bch' (And.left (by assumption)) hb⟩
end Go.Proofs.YtnjaikomoljmjaaGreatDoor
