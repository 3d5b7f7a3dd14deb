/-
  The law ClockKeeps: the walk.
-/
import Derived.Test.YtnjaikomoljmjaaGreatDoorKh
import Derived.Test.YtnjaikomoljmjaaGreatDoorCr5
set_option linter.unusedVariables false
set_option linter.unusedSimpArgs false
namespace Lum
open Go Go.RowKit Go.Shelf
open Go.Lib (decDigits itoa)
theorem moE_ok {E R D L t : Int} (h : ckB E R D L = true) (ht : wiB t 0 10000000 = true) (hl : ¬ t < L) : moE E R D L t = 0 := by
  unfold moE; rw [h, ht, if_neg (by simp), if_neg (by simp), if_neg hl]
theorem chgT_ok {E R D L t : Int} (mf : Int → Int → Int × Int) (h : moE E R D L t = 0) (hs : rdB (shZ E R D L t) = true) : chgT mf E R D L t true = ((shZ E R D L t, (mf R D).1, (mf R D).2, t), 0) := by
  unfold chgT; rw [h, hs]; simp
theorem ckB_moved {E R D L s : Int} (h : ckB E R D L = true) (hs : wiB s 0 10000000 = true) (hr : rdB (shZ E R D L s) = true) : ckB (shZ E R D L s) R D s = true := by
  obtain ⟨_, _, h3, h4⟩ := (ckB_iff _ _ _ _).1 h
  exact (ckB_iff _ _ _ _).2 ⟨(rdB_iff _).1 hr, (wiB_iff _ _ _).1 hs, h3, h4⟩
theorem shZ_shift {E R D L s t : Int} (h : ckB E R D L = true) (h1 : ¬ s < L) (h2 : ¬ t < s) : shZ (shZ E R D L s) R D s t = shZ E R D L t := by
  obtain ⟨h1', h2', h3, h4⟩ := (ckB_iff _ _ _ _).1 h
  unfold shZ
  have e : D * R * (t - L) = D * R * (s - L) + D * R * (t - s) := by rw [← Int.mul_add]; congr 1; omega
  rw [e]
  have p1 : 0 ≤ R * (s - L) := Int.mul_nonneg (by omega) (by omega)
  have p2 : 0 ≤ R * (t - s) := Int.mul_nonneg (by omega) (by omega)
  rw [Int.mul_assoc, Int.mul_assoc]
  generalize R * (s - L) = a at *
  generalize R * (t - s) = b at *
  rcases (show D = -1 ∨ D = 0 ∨ D = 1 by omega) with rfl | rfl | rfl <;> omega
theorem shZ_stand (E R s t : Int) (h : 0 ≤ E) : shZ E R 0 s t = E := by unfold shZ; rw [Int.zero_mul, Int.zero_mul]; omega
end Lum
namespace Go.Proofs.YtnjaikomoljmjaaGreatDoor
open Go.RowKit Go.Shelf Lum
open Go.Lib (decDigits itoa)
attribute [local go_sem] bs_get bs_extract_end bs_extract_from bs_extract bs_append

set_option maxRecDepth 100000 in
set_option maxHeartbeats 8000000 in
theorem law_keeps (E R D L s t : Int) (w : World) (env : Env w) :
    Calls Tryz.prog 6 #[.agg #[.int .i64 E, .int .i64 R, .int .i64 D, .int .i64 L], .int .i64 s, .int .i64 t] w fun e w' => e = .returned (.bool (true)) ∧ Below w.heap.size w w' := by
  have hx := CBox.new w 23 E R D L
  have hb := (Below.refl w.heap.size w).alloc (Nat.le_refl _) (.cells #[.int .i64 E, .int .i64 R, .int .i64 D, .int .i64 L] 23)
  have ENV := Lib.hid env; clear env
  have haw := fun W (e : Env W) => law23_awake W e
  have hc := fun W => r23_check E R D L W
  have ht1 := fun W => r23_time s W
  have ht2 := fun W => r23_time t W
  unfold ckE at hc
  cases hck : ckB E R D L
  · rw [hck] at hc
    simp only [Bool.false_eq_true, if_false] at hc
    clear hck
    have HC := Lib.hid hc; clear hc
    have HT1 := Lib.hid ht1; clear ht1
    have HT2 := Lib.hid ht2; clear ht2
    have HAW := Lib.hid haw; clear haw
    go_enter Tryz.func6, Tryz.ntmps6
    go_wp2_with fail
    generalize w.alloc (.cells #[.int .i64 E, .int .i64 R, .int .i64 D, .int .i64 L] 23) = W0 at *
    have HX := Lib.hid hx
    have HB := Lib.hid hb; clear hb
    obtain ⟨c0, c1, c2, c3, d0, d1, d2, d3, cl⟩ := hx
    go_wp2_with (first | (with_reducible refine ((HC.out _).mono ?_); rintro e w' ⟨rfl, hb⟩; replace HX := Lib.hid (HX.out.keep hb); replace HB := Lib.hid (bch' HB.out hb); clear hb; clear c0 c1 c2 c3 d0 d1 d2 d3 cl; obtain ⟨c0, c1, c2, c3, d0, d1, d2, d3, cl⟩ := HX.out) | (with_reducible refine ((HT1.out _).mono ?_); rintro e w' ⟨rfl, rfl⟩) | (with_reducible refine ((HT2.out _).mono ?_); rintro e w' ⟨rfl, rfl⟩) | (with_reducible refine ((HAW.out _ (ENV.out.below HB.out)).mono ?_); rintro e w' ⟨rfl, hb⟩; replace HX := Lib.hid (HX.out.keep hb); replace HB := Lib.hid (bch' HB.out hb); clear hb; clear c0 c1 c2 c3 d0 d1 d2 d3 cl; obtain ⟨c0, c1, c2, c3, d0, d1, d2, d3, cl⟩ := HX.out))
    go_ret
    exact ⟨rfl, HB.out⟩
  rw [hck] at hc
  simp only [if_true] at hc
  cases h1 : wiB s 0 10000000
  · rw [h1] at ht1
    clear hck h1
    have HC := Lib.hid hc; clear hc
    have HT1 := Lib.hid ht1; clear ht1
    have HT2 := Lib.hid ht2; clear ht2
    have HAW := Lib.hid haw; clear haw
    go_enter Tryz.func6, Tryz.ntmps6
    go_wp2_with fail
    generalize w.alloc (.cells #[.int .i64 E, .int .i64 R, .int .i64 D, .int .i64 L] 23) = W0 at *
    have HX := Lib.hid hx
    have HB := Lib.hid hb; clear hb
    obtain ⟨c0, c1, c2, c3, d0, d1, d2, d3, cl⟩ := hx
    go_wp2_with (first | (with_reducible refine ((HC.out _).mono ?_); rintro e w' ⟨rfl, hb⟩; replace HX := Lib.hid (HX.out.keep hb); replace HB := Lib.hid (bch' HB.out hb); clear hb; clear c0 c1 c2 c3 d0 d1 d2 d3 cl; obtain ⟨c0, c1, c2, c3, d0, d1, d2, d3, cl⟩ := HX.out) | (with_reducible refine ((HT1.out _).mono ?_); rintro e w' ⟨rfl, rfl⟩) | (with_reducible refine ((HT2.out _).mono ?_); rintro e w' ⟨rfl, rfl⟩) | (with_reducible refine ((HAW.out _ (ENV.out.below HB.out)).mono ?_); rintro e w' ⟨rfl, hb⟩; replace HX := Lib.hid (HX.out.keep hb); replace HB := Lib.hid (bch' HB.out hb); clear hb; clear c0 c1 c2 c3 d0 d1 d2 d3 cl; obtain ⟨c0, c1, c2, c3, d0, d1, d2, d3, cl⟩ := HX.out))
    go_ret
    exact ⟨rfl, HB.out⟩
  rw [h1] at ht1
  cases h2 : wiB t 0 10000000
  · rw [h2] at ht2
    clear hck h1 h2
    have HC := Lib.hid hc; clear hc
    have HT1 := Lib.hid ht1; clear ht1
    have HT2 := Lib.hid ht2; clear ht2
    have HAW := Lib.hid haw; clear haw
    go_enter Tryz.func6, Tryz.ntmps6
    go_wp2_with fail
    generalize w.alloc (.cells #[.int .i64 E, .int .i64 R, .int .i64 D, .int .i64 L] 23) = W0 at *
    have HX := Lib.hid hx
    have HB := Lib.hid hb; clear hb
    obtain ⟨c0, c1, c2, c3, d0, d1, d2, d3, cl⟩ := hx
    go_wp2_with (first | (with_reducible refine ((HC.out _).mono ?_); rintro e w' ⟨rfl, hb⟩; replace HX := Lib.hid (HX.out.keep hb); replace HB := Lib.hid (bch' HB.out hb); clear hb; clear c0 c1 c2 c3 d0 d1 d2 d3 cl; obtain ⟨c0, c1, c2, c3, d0, d1, d2, d3, cl⟩ := HX.out) | (with_reducible refine ((HT1.out _).mono ?_); rintro e w' ⟨rfl, rfl⟩) | (with_reducible refine ((HT2.out _).mono ?_); rintro e w' ⟨rfl, rfl⟩) | (with_reducible refine ((HAW.out _ (ENV.out.below HB.out)).mono ?_); rintro e w' ⟨rfl, hb⟩; replace HX := Lib.hid (HX.out.keep hb); replace HB := Lib.hid (bch' HB.out hb); clear hb; clear c0 c1 c2 c3 d0 d1 d2 d3 cl; obtain ⟨c0, c1, c2, c3, d0, d1, d2, d3, cl⟩ := HX.out))
    go_ret
    exact ⟨rfl, HB.out⟩
  rw [h2] at ht2
  by_cases h3 : s < L
  · clear hck h1 h2
    have HC := Lib.hid hc; clear hc
    have HT1 := Lib.hid ht1; clear ht1
    have HT2 := Lib.hid ht2; clear ht2
    have HAW := Lib.hid haw; clear haw
    go_enter Tryz.func6, Tryz.ntmps6
    go_wp2_with fail
    generalize w.alloc (.cells #[.int .i64 E, .int .i64 R, .int .i64 D, .int .i64 L] 23) = W0 at *
    have HX := Lib.hid hx
    have HB := Lib.hid hb; clear hb
    obtain ⟨c0, c1, c2, c3, d0, d1, d2, d3, cl⟩ := hx
    go_wp2_with (first | (with_reducible refine ((HC.out _).mono ?_); rintro e w' ⟨rfl, hb⟩; replace HX := Lib.hid (HX.out.keep hb); replace HB := Lib.hid (bch' HB.out hb); clear hb; clear c0 c1 c2 c3 d0 d1 d2 d3 cl; obtain ⟨c0, c1, c2, c3, d0, d1, d2, d3, cl⟩ := HX.out) | (with_reducible refine ((HT1.out _).mono ?_); rintro e w' ⟨rfl, rfl⟩) | (with_reducible refine ((HT2.out _).mono ?_); rintro e w' ⟨rfl, rfl⟩) | (with_reducible refine ((HAW.out _ (ENV.out.below HB.out)).mono ?_); rintro e w' ⟨rfl, hb⟩; replace HX := Lib.hid (HX.out.keep hb); replace HB := Lib.hid (bch' HB.out hb); clear hb; clear c0 c1 c2 c3 d0 d1 d2 d3 cl; obtain ⟨c0, c1, c2, c3, d0, d1, d2, d3, cl⟩ := HX.out))
    go_ret
    exact ⟨rfl, HB.out⟩
  by_cases h4 : t < s
  · clear hck h1 h2
    have HC := Lib.hid hc; clear hc
    have HT1 := Lib.hid ht1; clear ht1
    have HT2 := Lib.hid ht2; clear ht2
    have HAW := Lib.hid haw; clear haw
    go_enter Tryz.func6, Tryz.ntmps6
    go_wp2_with fail
    generalize w.alloc (.cells #[.int .i64 E, .int .i64 R, .int .i64 D, .int .i64 L] 23) = W0 at *
    have HX := Lib.hid hx
    have HB := Lib.hid hb; clear hb
    obtain ⟨c0, c1, c2, c3, d0, d1, d2, d3, cl⟩ := hx
    go_wp2_with (first | (with_reducible refine ((HC.out _).mono ?_); rintro e w' ⟨rfl, hb⟩; replace HX := Lib.hid (HX.out.keep hb); replace HB := Lib.hid (bch' HB.out hb); clear hb; clear c0 c1 c2 c3 d0 d1 d2 d3 cl; obtain ⟨c0, c1, c2, c3, d0, d1, d2, d3, cl⟩ := HX.out) | (with_reducible refine ((HT1.out _).mono ?_); rintro e w' ⟨rfl, rfl⟩) | (with_reducible refine ((HT2.out _).mono ?_); rintro e w' ⟨rfl, rfl⟩) | (with_reducible refine ((HAW.out _ (ENV.out.below HB.out)).mono ?_); rintro e w' ⟨rfl, hb⟩; replace HX := Lib.hid (HX.out.keep hb); replace HB := Lib.hid (bch' HB.out hb); clear hb; clear c0 c1 c2 c3 d0 d1 d2 d3 cl; obtain ⟨c0, c1, c2, c3, d0, d1, d2, d3, cl⟩ := HX.out))
    go_ret
    exact ⟨rfl, HB.out⟩
  have hs := fun W => r23_shown E R D L s W hck ((wiB_iff _ _ _).1 h1) (by omega)
  have hr := fun W => r23_reading (shZ E R D L s) W
  cases h5 : rdB (shZ E R D L s)
  · rw [h5] at hr
    clear hck h1 h2 h5
    generalize shZ E R D L s = sh at *
    have HC := Lib.hid hc; clear hc
    have HT1 := Lib.hid ht1; clear ht1
    have HT2 := Lib.hid ht2; clear ht2
    have HAW := Lib.hid haw; clear haw
    have HS := Lib.hid hs; clear hs
    have HR := Lib.hid hr; clear hr
    go_enter Tryz.func6, Tryz.ntmps6
    go_wp2_with fail
    generalize w.alloc (.cells #[.int .i64 E, .int .i64 R, .int .i64 D, .int .i64 L] 23) = W0 at *
    have HX := Lib.hid hx
    have HB := Lib.hid hb; clear hb
    obtain ⟨c0, c1, c2, c3, d0, d1, d2, d3, cl⟩ := hx
    go_wp2_with (first | (with_reducible refine ((HC.out _).mono ?_); rintro e w' ⟨rfl, hb⟩; replace HX := Lib.hid (HX.out.keep hb); replace HB := Lib.hid (bch' HB.out hb); clear hb; clear c0 c1 c2 c3 d0 d1 d2 d3 cl; obtain ⟨c0, c1, c2, c3, d0, d1, d2, d3, cl⟩ := HX.out) | (with_reducible refine ((HT1.out _).mono ?_); rintro e w' ⟨rfl, rfl⟩) | (with_reducible refine ((HT2.out _).mono ?_); rintro e w' ⟨rfl, rfl⟩) | (with_reducible refine ((HS.out _).mono ?_); rintro e w' ⟨rfl, hb⟩; replace HX := Lib.hid (HX.out.keep hb); replace HB := Lib.hid (bch' HB.out hb); clear hb; clear c0 c1 c2 c3 d0 d1 d2 d3 cl; obtain ⟨c0, c1, c2, c3, d0, d1, d2, d3, cl⟩ := HX.out) | (with_reducible refine ((HR.out _).mono ?_); rintro e w' ⟨rfl, rfl⟩) | (with_reducible refine ((HAW.out _ (ENV.out.below HB.out)).mono ?_); rintro e w' ⟨rfl, hb⟩; replace HX := Lib.hid (HX.out.keep hb); replace HB := Lib.hid (bch' HB.out hb); clear hb; clear c0 c1 c2 c3 d0 d1 d2 d3 cl; obtain ⟨c0, c1, c2, c3, d0, d1, d2, d3, cl⟩ := HX.out))
    go_ret
    exact ⟨rfl, HB.out⟩
  rw [h5] at hr
  have m1 := moE_ok hck h1 h3
  have m2 := moE_ok hck h2 (show ¬ t < L by omega)
  have ck2 := ckB_moved hck h1 h5
  have m3 := moE_ok ck2 h2 h4
  have sh0 := ((rdB_iff _).1 h5).1
  have ck3 : ckB (shZ E R D L s) R 0 s = true := by
    obtain ⟨g1, g2, g3, g4⟩ := (ckB_iff _ _ _ _).1 ck2
    exact (ckB_iff _ _ _ _).2 ⟨g1, g2, g3, by omega, by omega⟩
  have m4 := moE_ok ck3 h2 h4
  have hm := fun W => own_clk_move E R D L s W
  rw [chgT_ok _ m1 h5] at hm
  have hp := fun W => own_clk_pause E R D L s W
  rw [chgT_ok _ m1 h5] at hp
  unfold clkV at hm hp
  dsimp only at hm hp
  have a1 := fun W => at_val E R D L t _ m2 rfl W
  have a2 := fun W => at_val (shZ E R D L s) R D s t _ m3 (shZ_shift hck h3 h4) W
  have a3 := fun W => at_val E R D L s _ m1 rfl W
  have a4 := fun W => at_val (shZ E R D L s) R 0 s t _ m4 (shZ_stand _ _ _ _ sh0) W
  clear hck h1 h2 h5 m1 m2 m3 m4 ck2 ck3 sh0
  generalize shZ E R D L s = sh at *
  generalize shZ E R D L t = a at *
  have HC := Lib.hid hc; clear hc
  have HT1 := Lib.hid ht1; clear ht1
  have HT2 := Lib.hid ht2; clear ht2
  have HAW := Lib.hid haw; clear haw
  have HS := Lib.hid hs; clear hs
  have HR := Lib.hid hr; clear hr
  have HM := Lib.hid hm; clear hm
  have HP := Lib.hid hp; clear hp
  have A1 := Lib.hid a1; clear a1
  have A2 := Lib.hid a2; clear a2
  have A3 := Lib.hid a3; clear a3
  have A4 := Lib.hid a4; clear a4
  go_enter Tryz.func6, Tryz.ntmps6
  go_wp2_with fail
  generalize w.alloc (.cells #[.int .i64 E, .int .i64 R, .int .i64 D, .int .i64 L] 23) = W0 at *
  have HX := Lib.hid hx
  have HB := Lib.hid hb; clear hb
  obtain ⟨c0, c1, c2, c3, d0, d1, d2, d3, cl⟩ := hx
  go_wp2_with (first | (with_reducible refine ((HC.out _).mono ?_); rintro e w' ⟨rfl, hb⟩; replace HX := Lib.hid (HX.out.keep hb); replace HB := Lib.hid (bch' HB.out hb); clear hb; clear c0 c1 c2 c3 d0 d1 d2 d3 cl; obtain ⟨c0, c1, c2, c3, d0, d1, d2, d3, cl⟩ := HX.out) | (with_reducible refine ((HT1.out _).mono ?_); rintro e w' ⟨rfl, rfl⟩) | (with_reducible refine ((HT2.out _).mono ?_); rintro e w' ⟨rfl, rfl⟩) | (with_reducible refine ((HS.out _).mono ?_); rintro e w' ⟨rfl, hb⟩; replace HX := Lib.hid (HX.out.keep hb); replace HB := Lib.hid (bch' HB.out hb); clear hb; clear c0 c1 c2 c3 d0 d1 d2 d3 cl; obtain ⟨c0, c1, c2, c3, d0, d1, d2, d3, cl⟩ := HX.out) | (with_reducible refine ((HR.out _).mono ?_); rintro e w' ⟨rfl, rfl⟩))
  refine ((HM.out _).mono ?_)
  rintro e w1 ⟨rfl, hb⟩
  have hal := (Below.refl w1.heap.size w1).alloc (Nat.le_refl _) (.cells #[.int .i64 sh, .int .i64 R, .int .i64 D, .int .i64 s] 23)
  replace HX := Lib.hid ((HX.out.keep hb).keep hal)
  have BM := Lib.hid (CBox.new w1 23 sh R D s)
  replace HB := Lib.hid (bch' (bch' HB.out hb) hal); clear hb hal
  clear c0 c1 c2 c3 d0 d1 d2 d3 cl
  obtain ⟨c0, c1, c2, c3, d0, d1, d2, d3, cl⟩ := HX.out; obtain ⟨m0, m1, m2, m3, n0, n1, n2, n3, ml⟩ := BM.out
  go_wp2_with fail
  generalize w1.alloc (.cells #[.int .i64 sh, .int .i64 R, .int .i64 D, .int .i64 s] 23) = W1 at *
  go_wp2_with fail
  refine ((HP.out _).mono ?_)
  rintro e w2 ⟨rfl, hb⟩
  have hal := (Below.refl w2.heap.size w2).alloc (Nat.le_refl _) (.cells #[.int .i64 sh, .int .i64 R, .int .i64 0, .int .i64 s] 23)
  replace HX := Lib.hid ((HX.out.keep hb).keep hal)
  replace BM := Lib.hid ((BM.out.keep hb).keep hal)
  have BP := Lib.hid (CBox.new w2 23 sh R 0 s)
  replace HB := Lib.hid (bch' (bch' HB.out hb) hal); clear hb hal
  clear c0 c1 c2 c3 d0 d1 d2 d3 cl; clear m0 m1 m2 m3 n0 n1 n2 n3 ml
  obtain ⟨c0, c1, c2, c3, d0, d1, d2, d3, cl⟩ := HX.out; obtain ⟨m0, m1, m2, m3, n0, n1, n2, n3, ml⟩ := BM.out; obtain ⟨p0, p1, p2, p3, q0, q1, q2, q3, pl⟩ := BP.out
  go_wp2_with fail
  generalize w2.alloc (.cells #[.int .i64 sh, .int .i64 R, .int .i64 0, .int .i64 s] 23) = W2 at *
  go_wp2_with (first | (with_reducible refine ((A1.out _).mono ?_); rintro e w' ⟨rfl, hb⟩; replace HX := Lib.hid (HX.out.keep hb); replace BM := Lib.hid (BM.out.keep hb); replace BP := Lib.hid (BP.out.keep hb); replace HB := Lib.hid (bch' HB.out hb); clear hb; clear c0 c1 c2 c3 d0 d1 d2 d3 cl; clear m0 m1 m2 m3 n0 n1 n2 n3 ml; clear p0 p1 p2 p3 q0 q1 q2 q3 pl; obtain ⟨c0, c1, c2, c3, d0, d1, d2, d3, cl⟩ := HX.out; obtain ⟨m0, m1, m2, m3, n0, n1, n2, n3, ml⟩ := BM.out; obtain ⟨p0, p1, p2, p3, q0, q1, q2, q3, pl⟩ := BP.out) | (with_reducible refine ((A2.out _).mono ?_); rintro e w' ⟨rfl, hb⟩; replace HX := Lib.hid (HX.out.keep hb); replace BM := Lib.hid (BM.out.keep hb); replace BP := Lib.hid (BP.out.keep hb); replace HB := Lib.hid (bch' HB.out hb); clear hb; clear c0 c1 c2 c3 d0 d1 d2 d3 cl; clear m0 m1 m2 m3 n0 n1 n2 n3 ml; clear p0 p1 p2 p3 q0 q1 q2 q3 pl; obtain ⟨c0, c1, c2, c3, d0, d1, d2, d3, cl⟩ := HX.out; obtain ⟨m0, m1, m2, m3, n0, n1, n2, n3, ml⟩ := BM.out; obtain ⟨p0, p1, p2, p3, q0, q1, q2, q3, pl⟩ := BP.out) | (with_reducible refine ((A3.out _).mono ?_); rintro e w' ⟨rfl, hb⟩; replace HX := Lib.hid (HX.out.keep hb); replace BM := Lib.hid (BM.out.keep hb); replace BP := Lib.hid (BP.out.keep hb); replace HB := Lib.hid (bch' HB.out hb); clear hb; clear c0 c1 c2 c3 d0 d1 d2 d3 cl; clear m0 m1 m2 m3 n0 n1 n2 n3 ml; clear p0 p1 p2 p3 q0 q1 q2 q3 pl; obtain ⟨c0, c1, c2, c3, d0, d1, d2, d3, cl⟩ := HX.out; obtain ⟨m0, m1, m2, m3, n0, n1, n2, n3, ml⟩ := BM.out; obtain ⟨p0, p1, p2, p3, q0, q1, q2, q3, pl⟩ := BP.out) | (with_reducible refine ((A4.out _).mono ?_); rintro e w' ⟨rfl, hb⟩; replace HX := Lib.hid (HX.out.keep hb); replace BM := Lib.hid (BM.out.keep hb); replace BP := Lib.hid (BP.out.keep hb); replace HB := Lib.hid (bch' HB.out hb); clear hb; clear c0 c1 c2 c3 d0 d1 d2 d3 cl; clear m0 m1 m2 m3 n0 n1 n2 n3 ml; clear p0 p1 p2 p3 q0 q1 q2 q3 pl; obtain ⟨c0, c1, c2, c3, d0, d1, d2, d3, cl⟩ := HX.out; obtain ⟨m0, m1, m2, m3, n0, n1, n2, n3, ml⟩ := BM.out; obtain ⟨p0, p1, p2, p3, q0, q1, q2, q3, pl⟩ := BP.out) | (with_reducible refine ((HAW.out _ (ENV.out.below HB.out)).mono ?_); rintro e w' ⟨rfl, hb⟩; replace HX := Lib.hid (HX.out.keep hb); replace BM := Lib.hid (BM.out.keep hb); replace BP := Lib.hid (BP.out.keep hb); replace HB := Lib.hid (bch' HB.out hb); clear hb; clear c0 c1 c2 c3 d0 d1 d2 d3 cl; clear m0 m1 m2 m3 n0 n1 n2 n3 ml; clear p0 p1 p2 p3 q0 q1 q2 q3 pl; obtain ⟨c0, c1, c2, c3, d0, d1, d2, d3, cl⟩ := HX.out; obtain ⟨m0, m1, m2, m3, n0, n1, n2, n3, ml⟩ := BM.out; obtain ⟨p0, p1, p2, p3, q0, q1, q2, q3, pl⟩ := BP.out))
  go_ret
  exact ⟨rfl, HB.out⟩
end Go.Proofs.YtnjaikomoljmjaaGreatDoor
