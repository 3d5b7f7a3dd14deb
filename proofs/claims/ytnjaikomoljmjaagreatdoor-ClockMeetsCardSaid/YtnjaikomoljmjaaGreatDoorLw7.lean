/-
  The law ClockMeets: the walk.
-/
import Derived.Test.YtnjaikomoljmjaaGreatDoorLw5
set_option linter.unusedVariables false
set_option linter.unusedSimpArgs false
namespace Lum
open Go Go.RowKit Go.Shelf
open Go.Lib (decDigits itoa)
/-- The order of a whole moment and a sum. -/
theorem sgn_moment (t L m R : Int) (hR : 0 < R) : sgn (t : Rat) ((L : Rat) + Rat.divInt m R) = cmpZ ((t - L) * R) m := by
  have hR' : (0 : Rat) < (R : Rat) := by rw [show (0 : Rat) = ((0 : Int) : Rat) from rfl]; exact Rat.intCast_lt_intCast.2 hR
  have k1 : (t : Rat) < (L : Rat) + Rat.divInt m R ↔ (t - L) * R < m := by
    rw [Rat.divInt_eq_div, ← Rat.intCast_lt_intCast, Rat.intCast_mul, Rat.intCast_sub, ← Rat.lt_div_iff hR']
    constructor <;> intro h <;> grind
  have k2 : (L : Rat) + Rat.divInt m R < (t : Rat) ↔ m < (t - L) * R := by
    rw [Rat.divInt_eq_div, ← Rat.intCast_lt_intCast, Rat.intCast_mul, Rat.intCast_sub, ← Rat.div_lt_iff hR']
    constructor <;> intro h <;> grind
  unfold sgn cmpZ
  by_cases h1 : (t : Rat) < (L : Rat) + Rat.divInt m R
  · rw [if_pos h1, if_pos (k1.1 h1)]
  · rw [if_neg h1, if_neg (mt k1.2 h1)]
    by_cases h2 : (L : Rat) + Rat.divInt m R < (t : Rat)
    · rw [if_pos h2, if_pos (k2.1 h2)]
    · rw [if_neg h2, if_neg (mt k2.2 h2)]
/-- What a clock shows, beside the reading that it comes to: c is the order of the moments. -/
theorem meets_no {E R D L tg t : Int} (h : ckB E R D L = true) (ht : ¬ t < L) (h0 : 0 ≤ tg) (hn : tg - E ≠ 0 ∧ (tg - E) * D ≤ 0) :
    (D < 0 ∧ tg = 0) ∨ shZ E R D L t ≠ tg := by
  obtain ⟨h1', h2', h3, h4⟩ := (ckB_iff _ _ _ _).1 h
  right
  unfold shZ
  rw [Int.mul_assoc]
  have p1 : 0 ≤ R * (t - L) := Int.mul_nonneg (by omega) (by omega)
  generalize R * (t - L) = a at *
  obtain ⟨n1, n2⟩ := hn
  rcases (show D = -1 ∨ D = 0 ∨ D = 1 by omega) with rfl | rfl | rfl <;> omega
theorem meets_yes {E R D L tg t : Int} (h : ckB E R D L = true) (ht : ¬ t < L) (h0 : 0 ≤ tg) (hn : ¬ (tg - E ≠ 0 ∧ (tg - E) * D ≤ 0)) :
    ∃ a m c, shZ E R D L t = a ∧ max (tg - E) (-(tg - E)) = m ∧ cmpZ ((t - L) * R) m = c ∧
      ((c = 0 ∧ a = tg) ∨ (c = -1 ∧ D = 1 ∧ a < tg) ∨ (c = 1 ∧ D = 1 ∧ tg < a) ∨ (c = -1 ∧ D = -1 ∧ tg < a) ∨ (c = 1 ∧ D = -1 ∧ a < tg) ∨ (c = 1 ∧ D = -1 ∧ tg = 0 ∧ a = tg) ∨ (c ≠ 0 ∧ (c = 1 ∨ c = -1) ∧ D = 0 ∧ a = tg)) := by
  obtain ⟨h1', h2', h3, h4⟩ := (ckB_iff _ _ _ _).1 h
  refine ⟨_, _, _, rfl, rfl, rfl, ?_⟩
  unfold shZ cmpZ
  rw [Int.mul_assoc, Int.mul_comm (t - L)]
  have p1 : 0 ≤ R * (t - L) := Int.mul_nonneg (by omega) (by omega)
  generalize R * (t - L) = a at *
  have hn' : tg = E ∨ 0 < (tg - E) * D := by
    by_cases e : tg = E
    · exact .inl e
    · right
      have : ¬ (tg - E) * D ≤ 0 := fun h => hn ⟨by omega, h⟩
      omega
  clear hn
  generalize hm : max (tg - E) (-(tg - E)) = m
  rcases (show D = -1 ∨ D = 0 ∨ D = 1 by omega) with rfl | rfl | rfl
  all_goals
    rcases (show a < m ∨ (¬ a < m ∧ m < a) ∨ (¬ a < m ∧ ¬ m < a ∧ a = m) by omega) with g | ⟨g, g2⟩ | ⟨g, g2, rfl⟩
    · rw [if_pos g]
      first | exact .inl ⟨rfl, by omega⟩ | exact .inr (.inl ⟨rfl, rfl, by omega⟩) | exact .inr (.inr (.inl ⟨rfl, rfl, by omega⟩)) | exact .inr (.inr (.inr (.inl ⟨rfl, rfl, by omega⟩))) | exact .inr (.inr (.inr (.inr (.inl ⟨rfl, rfl, by omega⟩)))) | exact .inr (.inr (.inr (.inr (.inr (.inl ⟨rfl, rfl, by omega, by omega⟩))))) | exact .inr (.inr (.inr (.inr (.inr (.inr (⟨by decide, by decide, rfl, by omega⟩))))))
    · rw [if_neg g, if_pos g2]
      rcases (show tg = 0 ∨ 0 < tg by omega) with z | z
      all_goals first | exact .inl ⟨rfl, by omega⟩ | exact .inr (.inl ⟨rfl, rfl, by omega⟩) | exact .inr (.inr (.inl ⟨rfl, rfl, by omega⟩)) | exact .inr (.inr (.inr (.inl ⟨rfl, rfl, by omega⟩))) | exact .inr (.inr (.inr (.inr (.inl ⟨rfl, rfl, by omega⟩)))) | exact .inr (.inr (.inr (.inr (.inr (.inl ⟨rfl, rfl, by omega, by omega⟩))))) | exact .inr (.inr (.inr (.inr (.inr (.inr (⟨by decide, by decide, rfl, by omega⟩))))))
    · rw [if_neg g, if_neg g2]
      first | exact .inl ⟨rfl, by omega⟩ | exact .inr (.inl ⟨rfl, rfl, by omega⟩) | exact .inr (.inr (.inl ⟨rfl, rfl, by omega⟩)) | exact .inr (.inr (.inr (.inl ⟨rfl, rfl, by omega⟩))) | exact .inr (.inr (.inr (.inr (.inl ⟨rfl, rfl, by omega⟩)))) | exact .inr (.inr (.inr (.inr (.inr (.inl ⟨rfl, rfl, by omega, by omega⟩))))) | exact .inr (.inr (.inr (.inr (.inr (.inr (⟨by decide, by decide, rfl, by omega⟩))))))
end Lum
namespace Go.Proofs.YtnjaikomoljmjaaGreatDoor
open Go.RowKit Go.Shelf Lum
open Go.Lib (decDigits itoa)
attribute [local go_sem] bs_get bs_extract_end bs_extract_from bs_extract bs_append

set_option maxRecDepth 100000 in
set_option maxHeartbeats 16000000 in
theorem law_meets (E R D L g t : Int) (w : World) (env : Env w) :
    Calls Tryz.prog 5 #[.agg #[.int .i64 E, .int .i64 R, .int .i64 D, .int .i64 L], .int .i64 g, .int .i64 t] w fun e w' => e = .returned (.bool (true)) ∧ Below w.heap.size w w' := by
  have hx := CBox.new w 23 E R D L
  have hb := (Below.refl w.heap.size w).alloc (Nat.le_refl _) (.cells #[.int .i64 E, .int .i64 R, .int .i64 D, .int .i64 L] 23)
  have ENV := Lib.hid env; clear env
  have haw := fun W (e : Env W) => law23_awake W e
  have hc := fun W => r23_check E R D L W
  have ht1 := fun W => r23_reading g W
  have ht2 := fun W => r23_time t W
  unfold ckE at hc
  cases hck : ckB E R D L
  · rw [hck] at hc
    simp only [Bool.false_eq_true, if_false] at hc
    clear hck
    have HC := Lib.hid hc; clear hc
    have HT1 := Lib.hid ht1; clear ht1
    have HT2 := Lib.hid ht2; clear ht2
    have HAW := Lib.hid haw; clear haw
    go_enter Tryz.func5, Tryz.ntmps5
    go_wp2_with fail
    generalize w.alloc (.cells #[.int .i64 E, .int .i64 R, .int .i64 D, .int .i64 L] 23) = W0 at *
    have HX := Lib.hid hx
    have HB := Lib.hid hb; clear hb
    obtain ⟨c0, c1, c2, c3, d0, d1, d2, d3, cl⟩ := hx
    go_wp2_with (first | (with_reducible refine ((HC.out _).mono ?_); rintro e w' ⟨rfl, hb⟩; replace HX := Lib.hid (HX.out.keep hb); replace HB := Lib.hid (bch' HB.out hb); clear hb; clear c0 c1 c2 c3 d0 d1 d2 d3 cl; obtain ⟨c0, c1, c2, c3, d0, d1, d2, d3, cl⟩ := HX.out) | (with_reducible refine ((HT1.out _).mono ?_); rintro e w' ⟨rfl, rfl⟩) | (with_reducible refine ((HT2.out _).mono ?_); rintro e w' ⟨rfl, rfl⟩) | (with_reducible refine ((HAW.out _ (ENV.out.below HB.out)).mono ?_); rintro e w' ⟨rfl, hb⟩; replace HX := Lib.hid (HX.out.keep hb); replace HB := Lib.hid (bch' HB.out hb); clear hb; clear c0 c1 c2 c3 d0 d1 d2 d3 cl; obtain ⟨c0, c1, c2, c3, d0, d1, d2, d3, cl⟩ := HX.out))
    go_ret
    exact ⟨rfl, HB.out⟩
  rw [hck] at hc
  simp only [if_true] at hc
  cases h1 : rdB g
  · rw [h1] at ht1
    clear hck h1
    have HC := Lib.hid hc; clear hc
    have HT1 := Lib.hid ht1; clear ht1
    have HT2 := Lib.hid ht2; clear ht2
    have HAW := Lib.hid haw; clear haw
    go_enter Tryz.func5, Tryz.ntmps5
    go_wp2_with fail
    generalize w.alloc (.cells #[.int .i64 E, .int .i64 R, .int .i64 D, .int .i64 L] 23) = W0 at *
    have HX := Lib.hid hx
    have HB := Lib.hid hb; clear hb
    obtain ⟨c0, c1, c2, c3, d0, d1, d2, d3, cl⟩ := hx
    go_wp2_with (first | (with_reducible refine ((HC.out _).mono ?_); rintro e w' ⟨rfl, hb⟩; replace HX := Lib.hid (HX.out.keep hb); replace HB := Lib.hid (bch' HB.out hb); clear hb; clear c0 c1 c2 c3 d0 d1 d2 d3 cl; obtain ⟨c0, c1, c2, c3, d0, d1, d2, d3, cl⟩ := HX.out) | (with_reducible refine ((HT1.out _).mono ?_); rintro e w' ⟨rfl, rfl⟩) | (with_reducible refine ((HT2.out _).mono ?_); rintro e w' ⟨rfl, rfl⟩) | (with_reducible refine ((HAW.out _ (ENV.out.below HB.out)).mono ?_); rintro e w' ⟨rfl, hb⟩; replace HX := Lib.hid (HX.out.keep hb); replace HB := Lib.hid (bch' HB.out hb); clear hb; clear c0 c1 c2 c3 d0 d1 d2 d3 cl; obtain ⟨c0, c1, c2, c3, d0, d1, d2, d3, cl⟩ := HX.out))
    go_ret
    exact ⟨rfl, HB.out⟩
  rw [h1] at ht1
  cases h2 : wiB t 0 10000000
  · rw [h2] at ht2
    clear hck h1 h2
    have HC := Lib.hid hc; clear hc
    have HT1 := Lib.hid ht1; clear ht1
    have HT2 := Lib.hid ht2; clear ht2
    have HAW := Lib.hid haw; clear haw
    go_enter Tryz.func5, Tryz.ntmps5
    go_wp2_with fail
    generalize w.alloc (.cells #[.int .i64 E, .int .i64 R, .int .i64 D, .int .i64 L] 23) = W0 at *
    have HX := Lib.hid hx
    have HB := Lib.hid hb; clear hb
    obtain ⟨c0, c1, c2, c3, d0, d1, d2, d3, cl⟩ := hx
    go_wp2_with (first | (with_reducible refine ((HC.out _).mono ?_); rintro e w' ⟨rfl, hb⟩; replace HX := Lib.hid (HX.out.keep hb); replace HB := Lib.hid (bch' HB.out hb); clear hb; clear c0 c1 c2 c3 d0 d1 d2 d3 cl; obtain ⟨c0, c1, c2, c3, d0, d1, d2, d3, cl⟩ := HX.out) | (with_reducible refine ((HT1.out _).mono ?_); rintro e w' ⟨rfl, rfl⟩) | (with_reducible refine ((HT2.out _).mono ?_); rintro e w' ⟨rfl, rfl⟩) | (with_reducible refine ((HAW.out _ (ENV.out.below HB.out)).mono ?_); rintro e w' ⟨rfl, hb⟩; replace HX := Lib.hid (HX.out.keep hb); replace HB := Lib.hid (bch' HB.out hb); clear hb; clear c0 c1 c2 c3 d0 d1 d2 d3 cl; obtain ⟨c0, c1, c2, c3, d0, d1, d2, d3, cl⟩ := HX.out))
    go_ret
    exact ⟨rfl, HB.out⟩
  rw [h2] at ht2
  by_cases h3 : t < L
  · clear hck h1 h2
    have HC := Lib.hid hc; clear hc
    have HT1 := Lib.hid ht1; clear ht1
    have HT2 := Lib.hid ht2; clear ht2
    have HAW := Lib.hid haw; clear haw
    go_enter Tryz.func5, Tryz.ntmps5
    go_wp2_with fail
    generalize w.alloc (.cells #[.int .i64 E, .int .i64 R, .int .i64 D, .int .i64 L] 23) = W0 at *
    have HX := Lib.hid hx
    have HB := Lib.hid hb; clear hb
    obtain ⟨c0, c1, c2, c3, d0, d1, d2, d3, cl⟩ := hx
    go_wp2_with (first | (with_reducible refine ((HC.out _).mono ?_); rintro e w' ⟨rfl, hb⟩; replace HX := Lib.hid (HX.out.keep hb); replace HB := Lib.hid (bch' HB.out hb); clear hb; clear c0 c1 c2 c3 d0 d1 d2 d3 cl; obtain ⟨c0, c1, c2, c3, d0, d1, d2, d3, cl⟩ := HX.out) | (with_reducible refine ((HT1.out _).mono ?_); rintro e w' ⟨rfl, rfl⟩) | (with_reducible refine ((HT2.out _).mono ?_); rintro e w' ⟨rfl, rfl⟩) | (with_reducible refine ((HAW.out _ (ENV.out.below HB.out)).mono ?_); rintro e w' ⟨rfl, hb⟩; replace HX := Lib.hid (HX.out.keep hb); replace HB := Lib.hid (bch' HB.out hb); clear hb; clear c0 c1 c2 c3 d0 d1 d2 d3 cl; obtain ⟨c0, c1, c2, c3, d0, d1, d2, d3, cl⟩ := HX.out))
    go_ret
    exact ⟨rfl, HB.out⟩
  obtain ⟨bE, bL, bR, bD⟩ := (ckB_iff _ _ _ _).1 hck
  have bg := (rdB_iff g).1 h1
  have bt := (wiB_iff _ _ _).1 h2
  have ha := fun W => at_val E R D L t _ (moE_ok hck h2 h3) rfl W
  have hw := fun W (e : Env W) => own_clk_when E R D L g W e
  by_cases hn : g - E ≠ 0 ∧ (g - E) * D ≤ 0
  · have hwv : whenT E R D L g = ([], false, 0) := by unfold whenT; rw [hck, h1, if_neg (by simp), if_neg (by simp), if_pos hn]
    rw [hwv] at hw
    dsimp only at hw
    have hm := meets_no hck h3 bg.1 hn
    generalize shZ E R D L t = a at *
    have hme : ((a : Int) != g) = true ∨ (((a : Int) != g) = false ∧ D < 0 ∧ g = 0) := by
      by_cases e : a = g
      · right; exact ⟨by simpa using e, by rcases hm with h | h; exact h; exact absurd e h⟩
      · left; simpa using e
    clear hck h1 h2 hwv hm hn bE bL bR bD bg bt
    rcases hme with hme | ⟨hme, hD, rfl⟩
    · skip
      have HC := Lib.hid hc; clear hc
      have HT1 := Lib.hid ht1; clear ht1
      have HT2 := Lib.hid ht2; clear ht2
      have HAW := Lib.hid haw; clear haw
      have HA := Lib.hid ha; clear ha
      have HW := Lib.hid hw; clear hw
      go_enter Tryz.func5, Tryz.ntmps5
      go_wp2_with fail
      generalize w.alloc (.cells #[.int .i64 E, .int .i64 R, .int .i64 D, .int .i64 L] 23) = W0 at *
      have HX := Lib.hid hx
      have HB := Lib.hid hb; clear hb
      obtain ⟨c0, c1, c2, c3, d0, d1, d2, d3, cl⟩ := hx
      go_wp2_with (first | (with_reducible refine ((HC.out _).mono ?_); rintro e w' ⟨rfl, hb⟩; replace HX := Lib.hid (HX.out.keep hb); replace HB := Lib.hid (bch' HB.out hb); clear hb; clear c0 c1 c2 c3 d0 d1 d2 d3 cl; obtain ⟨c0, c1, c2, c3, d0, d1, d2, d3, cl⟩ := HX.out) | (with_reducible refine ((HT1.out _).mono ?_); rintro e w' ⟨rfl, rfl⟩) | (with_reducible refine ((HT2.out _).mono ?_); rintro e w' ⟨rfl, rfl⟩) | (with_reducible refine ((HW.out _ (ENV.out.below HB.out)).mono ?_); rintro e w' ⟨rfl, hb⟩; replace HX := Lib.hid (HX.out.keep hb); replace HB := Lib.hid (bch' HB.out hb); clear hb; clear c0 c1 c2 c3 d0 d1 d2 d3 cl; obtain ⟨c0, c1, c2, c3, d0, d1, d2, d3, cl⟩ := HX.out) | (with_reducible refine ((HA.out _).mono ?_); rintro e w' ⟨rfl, hb⟩; replace HX := Lib.hid (HX.out.keep hb); replace HB := Lib.hid (bch' HB.out hb); clear hb; clear c0 c1 c2 c3 d0 d1 d2 d3 cl; obtain ⟨c0, c1, c2, c3, d0, d1, d2, d3, cl⟩ := HX.out) | (with_reducible refine ((HAW.out _ (ENV.out.below HB.out)).mono ?_); rintro e w' ⟨rfl, hb⟩; replace HX := Lib.hid (HX.out.keep hb); replace HB := Lib.hid (bch' HB.out hb); clear hb; clear c0 c1 c2 c3 d0 d1 d2 d3 cl; obtain ⟨c0, c1, c2, c3, d0, d1, d2, d3, cl⟩ := HX.out))
      go_ret
      exact ⟨rfl, HB.out⟩
    · skip
      have HC := Lib.hid hc; clear hc
      have HT1 := Lib.hid ht1; clear ht1
      have HT2 := Lib.hid ht2; clear ht2
      have HAW := Lib.hid haw; clear haw
      have HA := Lib.hid ha; clear ha
      have HW := Lib.hid hw; clear hw
      go_enter Tryz.func5, Tryz.ntmps5
      go_wp2_with fail
      generalize w.alloc (.cells #[.int .i64 E, .int .i64 R, .int .i64 D, .int .i64 L] 23) = W0 at *
      have HX := Lib.hid hx
      have HB := Lib.hid hb; clear hb
      obtain ⟨c0, c1, c2, c3, d0, d1, d2, d3, cl⟩ := hx
      go_wp2_with (first | (with_reducible refine ((HC.out _).mono ?_); rintro e w' ⟨rfl, hb⟩; replace HX := Lib.hid (HX.out.keep hb); replace HB := Lib.hid (bch' HB.out hb); clear hb; clear c0 c1 c2 c3 d0 d1 d2 d3 cl; obtain ⟨c0, c1, c2, c3, d0, d1, d2, d3, cl⟩ := HX.out) | (with_reducible refine ((HT1.out _).mono ?_); rintro e w' ⟨rfl, rfl⟩) | (with_reducible refine ((HT2.out _).mono ?_); rintro e w' ⟨rfl, rfl⟩) | (with_reducible refine ((HW.out _ (ENV.out.below HB.out)).mono ?_); rintro e w' ⟨rfl, hb⟩; replace HX := Lib.hid (HX.out.keep hb); replace HB := Lib.hid (bch' HB.out hb); clear hb; clear c0 c1 c2 c3 d0 d1 d2 d3 cl; obtain ⟨c0, c1, c2, c3, d0, d1, d2, d3, cl⟩ := HX.out) | (with_reducible refine ((HA.out _).mono ?_); rintro e w' ⟨rfl, hb⟩; replace HX := Lib.hid (HX.out.keep hb); replace HB := Lib.hid (bch' HB.out hb); clear hb; clear c0 c1 c2 c3 d0 d1 d2 d3 cl; obtain ⟨c0, c1, c2, c3, d0, d1, d2, d3, cl⟩ := HX.out) | (with_reducible refine ((HAW.out _ (ENV.out.below HB.out)).mono ?_); rintro e w' ⟨rfl, hb⟩; replace HX := Lib.hid (HX.out.keep hb); replace HB := Lib.hid (bch' HB.out hb); clear hb; clear c0 c1 c2 c3 d0 d1 d2 d3 cl; obtain ⟨c0, c1, c2, c3, d0, d1, d2, d3, cl⟩ := HX.out))
      go_ret
      exact ⟨rfl, HB.out⟩
  have hwv : whenT E R D L g = (showR ((L : Rat) + Rat.divInt (max (g - E) (-(g - E))) R), true, 0) := by unfold whenT; rw [hck, h1, if_neg (by simp), if_neg (by simp), if_neg hn]
  rw [hwv] at hw
  dsimp only at hw
  obtain ⟨a, m, c, ea, em, ec, hm⟩ := meets_yes hck h3 bg.1 hn
  rw [ea] at ha
  rw [em] at hw
  have f1 : Fits 1000 (L : Rat) := (fits_i64 L (by omega) (by omega)).mono (by omega)
  have f2 : Fits 1000 (Rat.divInt m R) := (fits_divInt_i64 m R (by omega) (by omega) (by omega) (by omega)).mono (by omega)
  have f3 := fits_add f1 f2
  have hk := fun W => r2_check (showR ((L : Rat) + Rat.divInt m R)) W (len_ok f3 (by omega))
  rw [ratCheck_showR _ ((fit_fits _).2 (f3.mono (by omega)))] at hk
  have hwh := fun W => r2_whole t W (by omega) (by omega)
  have ho := fun W => r2_order (t : Rat) ((L : Rat) + Rat.divInt m R) W ((fits_i64 t (by omega) (by omega)).mono (by omega)) (f3.mono (by omega))
  rw [sgn_moment t L m R (by omega), ec, showR_int] at ho
  clear hck h1 h2 hwv hn ea em ec f1 f2 f3 bE bL bR bD bg bt
  generalize showR ((L : Rat) + Rat.divInt m R) = s at *
  have HM := Lib.hid hm; clear hm
  have HC := Lib.hid hc; clear hc
  have HT1 := Lib.hid ht1; clear ht1
  have HT2 := Lib.hid ht2; clear ht2
  have HAW := Lib.hid haw; clear haw
  have HA := Lib.hid ha; clear ha
  have HW := Lib.hid hw; clear hw
  have HK := Lib.hid hk; clear hk
  have HWH := Lib.hid hwh; clear hwh
  have HO := Lib.hid ho; clear ho
  rcases HM.out with ⟨rfl, rfl⟩ | ⟨rfl, rfl, h⟩ | ⟨rfl, rfl, h⟩ | ⟨rfl, rfl, h⟩ | ⟨rfl, rfl, h⟩ | ⟨rfl, rfl, rfl, rfl⟩ | ⟨h0, rfl | rfl, rfl, rfl⟩
  all_goals clear HM
  · skip
    go_enter Tryz.func5, Tryz.ntmps5
    go_wp2_with fail
    generalize w.alloc (.cells #[.int .i64 E, .int .i64 R, .int .i64 D, .int .i64 L] 23) = W0 at *
    have HX := Lib.hid hx
    have HB := Lib.hid hb; clear hb
    obtain ⟨c0, c1, c2, c3, d0, d1, d2, d3, cl⟩ := hx
    go_wp2_with (first | (with_reducible refine ((HC.out _).mono ?_); rintro e w' ⟨rfl, hb⟩; replace HX := Lib.hid (HX.out.keep hb); replace HB := Lib.hid (bch' HB.out hb); clear hb; clear c0 c1 c2 c3 d0 d1 d2 d3 cl; obtain ⟨c0, c1, c2, c3, d0, d1, d2, d3, cl⟩ := HX.out) | (with_reducible refine ((HT1.out _).mono ?_); rintro e w' ⟨rfl, rfl⟩) | (with_reducible refine ((HT2.out _).mono ?_); rintro e w' ⟨rfl, rfl⟩) | (with_reducible refine ((HW.out _ (ENV.out.below HB.out)).mono ?_); rintro e w' ⟨rfl, hb⟩; replace HX := Lib.hid (HX.out.keep hb); replace HB := Lib.hid (bch' HB.out hb); clear hb; clear c0 c1 c2 c3 d0 d1 d2 d3 cl; obtain ⟨c0, c1, c2, c3, d0, d1, d2, d3, cl⟩ := HX.out) | (with_reducible refine ((HA.out _).mono ?_); rintro e w' ⟨rfl, hb⟩; replace HX := Lib.hid (HX.out.keep hb); replace HB := Lib.hid (bch' HB.out hb); clear hb; clear c0 c1 c2 c3 d0 d1 d2 d3 cl; obtain ⟨c0, c1, c2, c3, d0, d1, d2, d3, cl⟩ := HX.out) | (with_reducible refine ((HK.out _).mono ?_); rintro e w' ⟨rfl, hb⟩; replace HX := Lib.hid (HX.out.keep hb); replace HB := Lib.hid (bch' HB.out hb); clear hb; clear c0 c1 c2 c3 d0 d1 d2 d3 cl; obtain ⟨c0, c1, c2, c3, d0, d1, d2, d3, cl⟩ := HX.out) | (with_reducible refine ((HWH.out _).mono ?_); rintro e w' ⟨rfl, hb⟩; replace HX := Lib.hid (HX.out.keep hb); replace HB := Lib.hid (bch' HB.out hb); clear hb; clear c0 c1 c2 c3 d0 d1 d2 d3 cl; obtain ⟨c0, c1, c2, c3, d0, d1, d2, d3, cl⟩ := HX.out) | (with_reducible refine ((HO.out _).mono ?_); rintro e w' ⟨rfl, hb⟩; replace HX := Lib.hid (HX.out.keep hb); replace HB := Lib.hid (bch' HB.out hb); clear hb; clear c0 c1 c2 c3 d0 d1 d2 d3 cl; obtain ⟨c0, c1, c2, c3, d0, d1, d2, d3, cl⟩ := HX.out) | (with_reducible refine ((HAW.out _ (ENV.out.below HB.out)).mono ?_); rintro e w' ⟨rfl, hb⟩; replace HX := Lib.hid (HX.out.keep hb); replace HB := Lib.hid (bch' HB.out hb); clear hb; clear c0 c1 c2 c3 d0 d1 d2 d3 cl; obtain ⟨c0, c1, c2, c3, d0, d1, d2, d3, cl⟩ := HX.out))
    go_ret
    exact ⟨rfl, HB.out⟩
  · have d1 : decide (a < g) = true := by simpa using h
    go_enter Tryz.func5, Tryz.ntmps5
    go_wp2_with fail
    generalize w.alloc (.cells #[.int .i64 E, .int .i64 R, .int .i64 1, .int .i64 L] 23) = W0 at *
    have HX := Lib.hid hx
    have HB := Lib.hid hb; clear hb
    obtain ⟨c0, c1, c2, c3, d0, d1, d2, d3, cl⟩ := hx
    go_wp2_with (first | (with_reducible refine ((HC.out _).mono ?_); rintro e w' ⟨rfl, hb⟩; replace HX := Lib.hid (HX.out.keep hb); replace HB := Lib.hid (bch' HB.out hb); clear hb; clear c0 c1 c2 c3 d0 d1 d2 d3 cl; obtain ⟨c0, c1, c2, c3, d0, d1, d2, d3, cl⟩ := HX.out) | (with_reducible refine ((HT1.out _).mono ?_); rintro e w' ⟨rfl, rfl⟩) | (with_reducible refine ((HT2.out _).mono ?_); rintro e w' ⟨rfl, rfl⟩) | (with_reducible refine ((HW.out _ (ENV.out.below HB.out)).mono ?_); rintro e w' ⟨rfl, hb⟩; replace HX := Lib.hid (HX.out.keep hb); replace HB := Lib.hid (bch' HB.out hb); clear hb; clear c0 c1 c2 c3 d0 d1 d2 d3 cl; obtain ⟨c0, c1, c2, c3, d0, d1, d2, d3, cl⟩ := HX.out) | (with_reducible refine ((HA.out _).mono ?_); rintro e w' ⟨rfl, hb⟩; replace HX := Lib.hid (HX.out.keep hb); replace HB := Lib.hid (bch' HB.out hb); clear hb; clear c0 c1 c2 c3 d0 d1 d2 d3 cl; obtain ⟨c0, c1, c2, c3, d0, d1, d2, d3, cl⟩ := HX.out) | (with_reducible refine ((HK.out _).mono ?_); rintro e w' ⟨rfl, hb⟩; replace HX := Lib.hid (HX.out.keep hb); replace HB := Lib.hid (bch' HB.out hb); clear hb; clear c0 c1 c2 c3 d0 d1 d2 d3 cl; obtain ⟨c0, c1, c2, c3, d0, d1, d2, d3, cl⟩ := HX.out) | (with_reducible refine ((HWH.out _).mono ?_); rintro e w' ⟨rfl, hb⟩; replace HX := Lib.hid (HX.out.keep hb); replace HB := Lib.hid (bch' HB.out hb); clear hb; clear c0 c1 c2 c3 d0 d1 d2 d3 cl; obtain ⟨c0, c1, c2, c3, d0, d1, d2, d3, cl⟩ := HX.out) | (with_reducible refine ((HO.out _).mono ?_); rintro e w' ⟨rfl, hb⟩; replace HX := Lib.hid (HX.out.keep hb); replace HB := Lib.hid (bch' HB.out hb); clear hb; clear c0 c1 c2 c3 d0 d1 d2 d3 cl; obtain ⟨c0, c1, c2, c3, d0, d1, d2, d3, cl⟩ := HX.out) | (with_reducible refine ((HAW.out _ (ENV.out.below HB.out)).mono ?_); rintro e w' ⟨rfl, hb⟩; replace HX := Lib.hid (HX.out.keep hb); replace HB := Lib.hid (bch' HB.out hb); clear hb; clear c0 c1 c2 c3 d0 d1 d2 d3 cl; obtain ⟨c0, c1, c2, c3, d0, d1, d2, d3, cl⟩ := HX.out))
    go_ret
    exact ⟨rfl, HB.out⟩
  · have d1 : decide (a < g) = false := by simp; omega
    go_enter Tryz.func5, Tryz.ntmps5
    go_wp2_with fail
    generalize w.alloc (.cells #[.int .i64 E, .int .i64 R, .int .i64 1, .int .i64 L] 23) = W0 at *
    have HX := Lib.hid hx
    have HB := Lib.hid hb; clear hb
    obtain ⟨c0, c1, c2, c3, d0, d1, d2, d3, cl⟩ := hx
    go_wp2_with (first | (with_reducible refine ((HC.out _).mono ?_); rintro e w' ⟨rfl, hb⟩; replace HX := Lib.hid (HX.out.keep hb); replace HB := Lib.hid (bch' HB.out hb); clear hb; clear c0 c1 c2 c3 d0 d1 d2 d3 cl; obtain ⟨c0, c1, c2, c3, d0, d1, d2, d3, cl⟩ := HX.out) | (with_reducible refine ((HT1.out _).mono ?_); rintro e w' ⟨rfl, rfl⟩) | (with_reducible refine ((HT2.out _).mono ?_); rintro e w' ⟨rfl, rfl⟩) | (with_reducible refine ((HW.out _ (ENV.out.below HB.out)).mono ?_); rintro e w' ⟨rfl, hb⟩; replace HX := Lib.hid (HX.out.keep hb); replace HB := Lib.hid (bch' HB.out hb); clear hb; clear c0 c1 c2 c3 d0 d1 d2 d3 cl; obtain ⟨c0, c1, c2, c3, d0, d1, d2, d3, cl⟩ := HX.out) | (with_reducible refine ((HA.out _).mono ?_); rintro e w' ⟨rfl, hb⟩; replace HX := Lib.hid (HX.out.keep hb); replace HB := Lib.hid (bch' HB.out hb); clear hb; clear c0 c1 c2 c3 d0 d1 d2 d3 cl; obtain ⟨c0, c1, c2, c3, d0, d1, d2, d3, cl⟩ := HX.out) | (with_reducible refine ((HK.out _).mono ?_); rintro e w' ⟨rfl, hb⟩; replace HX := Lib.hid (HX.out.keep hb); replace HB := Lib.hid (bch' HB.out hb); clear hb; clear c0 c1 c2 c3 d0 d1 d2 d3 cl; obtain ⟨c0, c1, c2, c3, d0, d1, d2, d3, cl⟩ := HX.out) | (with_reducible refine ((HWH.out _).mono ?_); rintro e w' ⟨rfl, hb⟩; replace HX := Lib.hid (HX.out.keep hb); replace HB := Lib.hid (bch' HB.out hb); clear hb; clear c0 c1 c2 c3 d0 d1 d2 d3 cl; obtain ⟨c0, c1, c2, c3, d0, d1, d2, d3, cl⟩ := HX.out) | (with_reducible refine ((HO.out _).mono ?_); rintro e w' ⟨rfl, hb⟩; replace HX := Lib.hid (HX.out.keep hb); replace HB := Lib.hid (bch' HB.out hb); clear hb; clear c0 c1 c2 c3 d0 d1 d2 d3 cl; obtain ⟨c0, c1, c2, c3, d0, d1, d2, d3, cl⟩ := HX.out) | (with_reducible refine ((HAW.out _ (ENV.out.below HB.out)).mono ?_); rintro e w' ⟨rfl, hb⟩; replace HX := Lib.hid (HX.out.keep hb); replace HB := Lib.hid (bch' HB.out hb); clear hb; clear c0 c1 c2 c3 d0 d1 d2 d3 cl; obtain ⟨c0, c1, c2, c3, d0, d1, d2, d3, cl⟩ := HX.out))
    go_ret
    exact ⟨rfl, HB.out⟩
  · have d1 : decide (g < a) = true := by simpa using h
    go_enter Tryz.func5, Tryz.ntmps5
    go_wp2_with fail
    generalize w.alloc (.cells #[.int .i64 E, .int .i64 R, .int .i64 (-1), .int .i64 L] 23) = W0 at *
    have HX := Lib.hid hx
    have HB := Lib.hid hb; clear hb
    obtain ⟨c0, c1, c2, c3, d0, d1, d2, d3, cl⟩ := hx
    go_wp2_with (first | (with_reducible refine ((HC.out _).mono ?_); rintro e w' ⟨rfl, hb⟩; replace HX := Lib.hid (HX.out.keep hb); replace HB := Lib.hid (bch' HB.out hb); clear hb; clear c0 c1 c2 c3 d0 d1 d2 d3 cl; obtain ⟨c0, c1, c2, c3, d0, d1, d2, d3, cl⟩ := HX.out) | (with_reducible refine ((HT1.out _).mono ?_); rintro e w' ⟨rfl, rfl⟩) | (with_reducible refine ((HT2.out _).mono ?_); rintro e w' ⟨rfl, rfl⟩) | (with_reducible refine ((HW.out _ (ENV.out.below HB.out)).mono ?_); rintro e w' ⟨rfl, hb⟩; replace HX := Lib.hid (HX.out.keep hb); replace HB := Lib.hid (bch' HB.out hb); clear hb; clear c0 c1 c2 c3 d0 d1 d2 d3 cl; obtain ⟨c0, c1, c2, c3, d0, d1, d2, d3, cl⟩ := HX.out) | (with_reducible refine ((HA.out _).mono ?_); rintro e w' ⟨rfl, hb⟩; replace HX := Lib.hid (HX.out.keep hb); replace HB := Lib.hid (bch' HB.out hb); clear hb; clear c0 c1 c2 c3 d0 d1 d2 d3 cl; obtain ⟨c0, c1, c2, c3, d0, d1, d2, d3, cl⟩ := HX.out) | (with_reducible refine ((HK.out _).mono ?_); rintro e w' ⟨rfl, hb⟩; replace HX := Lib.hid (HX.out.keep hb); replace HB := Lib.hid (bch' HB.out hb); clear hb; clear c0 c1 c2 c3 d0 d1 d2 d3 cl; obtain ⟨c0, c1, c2, c3, d0, d1, d2, d3, cl⟩ := HX.out) | (with_reducible refine ((HWH.out _).mono ?_); rintro e w' ⟨rfl, hb⟩; replace HX := Lib.hid (HX.out.keep hb); replace HB := Lib.hid (bch' HB.out hb); clear hb; clear c0 c1 c2 c3 d0 d1 d2 d3 cl; obtain ⟨c0, c1, c2, c3, d0, d1, d2, d3, cl⟩ := HX.out) | (with_reducible refine ((HO.out _).mono ?_); rintro e w' ⟨rfl, hb⟩; replace HX := Lib.hid (HX.out.keep hb); replace HB := Lib.hid (bch' HB.out hb); clear hb; clear c0 c1 c2 c3 d0 d1 d2 d3 cl; obtain ⟨c0, c1, c2, c3, d0, d1, d2, d3, cl⟩ := HX.out) | (with_reducible refine ((HAW.out _ (ENV.out.below HB.out)).mono ?_); rintro e w' ⟨rfl, hb⟩; replace HX := Lib.hid (HX.out.keep hb); replace HB := Lib.hid (bch' HB.out hb); clear hb; clear c0 c1 c2 c3 d0 d1 d2 d3 cl; obtain ⟨c0, c1, c2, c3, d0, d1, d2, d3, cl⟩ := HX.out))
    go_ret
    exact ⟨rfl, HB.out⟩
  · have d1 : decide (a < g) = true := by simpa using h
    go_enter Tryz.func5, Tryz.ntmps5
    go_wp2_with fail
    generalize w.alloc (.cells #[.int .i64 E, .int .i64 R, .int .i64 (-1), .int .i64 L] 23) = W0 at *
    have HX := Lib.hid hx
    have HB := Lib.hid hb; clear hb
    obtain ⟨c0, c1, c2, c3, d0, d1, d2, d3, cl⟩ := hx
    go_wp2_with (first | (with_reducible refine ((HC.out _).mono ?_); rintro e w' ⟨rfl, hb⟩; replace HX := Lib.hid (HX.out.keep hb); replace HB := Lib.hid (bch' HB.out hb); clear hb; clear c0 c1 c2 c3 d0 d1 d2 d3 cl; obtain ⟨c0, c1, c2, c3, d0, d1, d2, d3, cl⟩ := HX.out) | (with_reducible refine ((HT1.out _).mono ?_); rintro e w' ⟨rfl, rfl⟩) | (with_reducible refine ((HT2.out _).mono ?_); rintro e w' ⟨rfl, rfl⟩) | (with_reducible refine ((HW.out _ (ENV.out.below HB.out)).mono ?_); rintro e w' ⟨rfl, hb⟩; replace HX := Lib.hid (HX.out.keep hb); replace HB := Lib.hid (bch' HB.out hb); clear hb; clear c0 c1 c2 c3 d0 d1 d2 d3 cl; obtain ⟨c0, c1, c2, c3, d0, d1, d2, d3, cl⟩ := HX.out) | (with_reducible refine ((HA.out _).mono ?_); rintro e w' ⟨rfl, hb⟩; replace HX := Lib.hid (HX.out.keep hb); replace HB := Lib.hid (bch' HB.out hb); clear hb; clear c0 c1 c2 c3 d0 d1 d2 d3 cl; obtain ⟨c0, c1, c2, c3, d0, d1, d2, d3, cl⟩ := HX.out) | (with_reducible refine ((HK.out _).mono ?_); rintro e w' ⟨rfl, hb⟩; replace HX := Lib.hid (HX.out.keep hb); replace HB := Lib.hid (bch' HB.out hb); clear hb; clear c0 c1 c2 c3 d0 d1 d2 d3 cl; obtain ⟨c0, c1, c2, c3, d0, d1, d2, d3, cl⟩ := HX.out) | (with_reducible refine ((HWH.out _).mono ?_); rintro e w' ⟨rfl, hb⟩; replace HX := Lib.hid (HX.out.keep hb); replace HB := Lib.hid (bch' HB.out hb); clear hb; clear c0 c1 c2 c3 d0 d1 d2 d3 cl; obtain ⟨c0, c1, c2, c3, d0, d1, d2, d3, cl⟩ := HX.out) | (with_reducible refine ((HO.out _).mono ?_); rintro e w' ⟨rfl, hb⟩; replace HX := Lib.hid (HX.out.keep hb); replace HB := Lib.hid (bch' HB.out hb); clear hb; clear c0 c1 c2 c3 d0 d1 d2 d3 cl; obtain ⟨c0, c1, c2, c3, d0, d1, d2, d3, cl⟩ := HX.out) | (with_reducible refine ((HAW.out _ (ENV.out.below HB.out)).mono ?_); rintro e w' ⟨rfl, hb⟩; replace HX := Lib.hid (HX.out.keep hb); replace HB := Lib.hid (bch' HB.out hb); clear hb; clear c0 c1 c2 c3 d0 d1 d2 d3 cl; obtain ⟨c0, c1, c2, c3, d0, d1, d2, d3, cl⟩ := HX.out))
    go_ret
    exact ⟨rfl, HB.out⟩
  · skip
    go_enter Tryz.func5, Tryz.ntmps5
    go_wp2_with fail
    generalize w.alloc (.cells #[.int .i64 E, .int .i64 R, .int .i64 (-1), .int .i64 L] 23) = W0 at *
    have HX := Lib.hid hx
    have HB := Lib.hid hb; clear hb
    obtain ⟨c0, c1, c2, c3, d0, d1, d2, d3, cl⟩ := hx
    go_wp2_with (first | (with_reducible refine ((HC.out _).mono ?_); rintro e w' ⟨rfl, hb⟩; replace HX := Lib.hid (HX.out.keep hb); replace HB := Lib.hid (bch' HB.out hb); clear hb; clear c0 c1 c2 c3 d0 d1 d2 d3 cl; obtain ⟨c0, c1, c2, c3, d0, d1, d2, d3, cl⟩ := HX.out) | (with_reducible refine ((HT1.out _).mono ?_); rintro e w' ⟨rfl, rfl⟩) | (with_reducible refine ((HT2.out _).mono ?_); rintro e w' ⟨rfl, rfl⟩) | (with_reducible refine ((HW.out _ (ENV.out.below HB.out)).mono ?_); rintro e w' ⟨rfl, hb⟩; replace HX := Lib.hid (HX.out.keep hb); replace HB := Lib.hid (bch' HB.out hb); clear hb; clear c0 c1 c2 c3 d0 d1 d2 d3 cl; obtain ⟨c0, c1, c2, c3, d0, d1, d2, d3, cl⟩ := HX.out) | (with_reducible refine ((HA.out _).mono ?_); rintro e w' ⟨rfl, hb⟩; replace HX := Lib.hid (HX.out.keep hb); replace HB := Lib.hid (bch' HB.out hb); clear hb; clear c0 c1 c2 c3 d0 d1 d2 d3 cl; obtain ⟨c0, c1, c2, c3, d0, d1, d2, d3, cl⟩ := HX.out) | (with_reducible refine ((HK.out _).mono ?_); rintro e w' ⟨rfl, hb⟩; replace HX := Lib.hid (HX.out.keep hb); replace HB := Lib.hid (bch' HB.out hb); clear hb; clear c0 c1 c2 c3 d0 d1 d2 d3 cl; obtain ⟨c0, c1, c2, c3, d0, d1, d2, d3, cl⟩ := HX.out) | (with_reducible refine ((HWH.out _).mono ?_); rintro e w' ⟨rfl, hb⟩; replace HX := Lib.hid (HX.out.keep hb); replace HB := Lib.hid (bch' HB.out hb); clear hb; clear c0 c1 c2 c3 d0 d1 d2 d3 cl; obtain ⟨c0, c1, c2, c3, d0, d1, d2, d3, cl⟩ := HX.out) | (with_reducible refine ((HO.out _).mono ?_); rintro e w' ⟨rfl, hb⟩; replace HX := Lib.hid (HX.out.keep hb); replace HB := Lib.hid (bch' HB.out hb); clear hb; clear c0 c1 c2 c3 d0 d1 d2 d3 cl; obtain ⟨c0, c1, c2, c3, d0, d1, d2, d3, cl⟩ := HX.out) | (with_reducible refine ((HAW.out _ (ENV.out.below HB.out)).mono ?_); rintro e w' ⟨rfl, hb⟩; replace HX := Lib.hid (HX.out.keep hb); replace HB := Lib.hid (bch' HB.out hb); clear hb; clear c0 c1 c2 c3 d0 d1 d2 d3 cl; obtain ⟨c0, c1, c2, c3, d0, d1, d2, d3, cl⟩ := HX.out))
    go_ret
    exact ⟨rfl, HB.out⟩
  · skip
    go_enter Tryz.func5, Tryz.ntmps5
    go_wp2_with fail
    generalize w.alloc (.cells #[.int .i64 E, .int .i64 R, .int .i64 0, .int .i64 L] 23) = W0 at *
    have HX := Lib.hid hx
    have HB := Lib.hid hb; clear hb
    obtain ⟨c0, c1, c2, c3, d0, d1, d2, d3, cl⟩ := hx
    go_wp2_with (first | (with_reducible refine ((HC.out _).mono ?_); rintro e w' ⟨rfl, hb⟩; replace HX := Lib.hid (HX.out.keep hb); replace HB := Lib.hid (bch' HB.out hb); clear hb; clear c0 c1 c2 c3 d0 d1 d2 d3 cl; obtain ⟨c0, c1, c2, c3, d0, d1, d2, d3, cl⟩ := HX.out) | (with_reducible refine ((HT1.out _).mono ?_); rintro e w' ⟨rfl, rfl⟩) | (with_reducible refine ((HT2.out _).mono ?_); rintro e w' ⟨rfl, rfl⟩) | (with_reducible refine ((HW.out _ (ENV.out.below HB.out)).mono ?_); rintro e w' ⟨rfl, hb⟩; replace HX := Lib.hid (HX.out.keep hb); replace HB := Lib.hid (bch' HB.out hb); clear hb; clear c0 c1 c2 c3 d0 d1 d2 d3 cl; obtain ⟨c0, c1, c2, c3, d0, d1, d2, d3, cl⟩ := HX.out) | (with_reducible refine ((HA.out _).mono ?_); rintro e w' ⟨rfl, hb⟩; replace HX := Lib.hid (HX.out.keep hb); replace HB := Lib.hid (bch' HB.out hb); clear hb; clear c0 c1 c2 c3 d0 d1 d2 d3 cl; obtain ⟨c0, c1, c2, c3, d0, d1, d2, d3, cl⟩ := HX.out) | (with_reducible refine ((HK.out _).mono ?_); rintro e w' ⟨rfl, hb⟩; replace HX := Lib.hid (HX.out.keep hb); replace HB := Lib.hid (bch' HB.out hb); clear hb; clear c0 c1 c2 c3 d0 d1 d2 d3 cl; obtain ⟨c0, c1, c2, c3, d0, d1, d2, d3, cl⟩ := HX.out) | (with_reducible refine ((HWH.out _).mono ?_); rintro e w' ⟨rfl, hb⟩; replace HX := Lib.hid (HX.out.keep hb); replace HB := Lib.hid (bch' HB.out hb); clear hb; clear c0 c1 c2 c3 d0 d1 d2 d3 cl; obtain ⟨c0, c1, c2, c3, d0, d1, d2, d3, cl⟩ := HX.out) | (with_reducible refine ((HO.out _).mono ?_); rintro e w' ⟨rfl, hb⟩; replace HX := Lib.hid (HX.out.keep hb); replace HB := Lib.hid (bch' HB.out hb); clear hb; clear c0 c1 c2 c3 d0 d1 d2 d3 cl; obtain ⟨c0, c1, c2, c3, d0, d1, d2, d3, cl⟩ := HX.out) | (with_reducible refine ((HAW.out _ (ENV.out.below HB.out)).mono ?_); rintro e w' ⟨rfl, hb⟩; replace HX := Lib.hid (HX.out.keep hb); replace HB := Lib.hid (bch' HB.out hb); clear hb; clear c0 c1 c2 c3 d0 d1 d2 d3 cl; obtain ⟨c0, c1, c2, c3, d0, d1, d2, d3, cl⟩ := HX.out))
    go_ret
    exact ⟨rfl, HB.out⟩
  · skip
    go_enter Tryz.func5, Tryz.ntmps5
    go_wp2_with fail
    generalize w.alloc (.cells #[.int .i64 E, .int .i64 R, .int .i64 0, .int .i64 L] 23) = W0 at *
    have HX := Lib.hid hx
    have HB := Lib.hid hb; clear hb
    obtain ⟨c0, c1, c2, c3, d0, d1, d2, d3, cl⟩ := hx
    go_wp2_with (first | (with_reducible refine ((HC.out _).mono ?_); rintro e w' ⟨rfl, hb⟩; replace HX := Lib.hid (HX.out.keep hb); replace HB := Lib.hid (bch' HB.out hb); clear hb; clear c0 c1 c2 c3 d0 d1 d2 d3 cl; obtain ⟨c0, c1, c2, c3, d0, d1, d2, d3, cl⟩ := HX.out) | (with_reducible refine ((HT1.out _).mono ?_); rintro e w' ⟨rfl, rfl⟩) | (with_reducible refine ((HT2.out _).mono ?_); rintro e w' ⟨rfl, rfl⟩) | (with_reducible refine ((HW.out _ (ENV.out.below HB.out)).mono ?_); rintro e w' ⟨rfl, hb⟩; replace HX := Lib.hid (HX.out.keep hb); replace HB := Lib.hid (bch' HB.out hb); clear hb; clear c0 c1 c2 c3 d0 d1 d2 d3 cl; obtain ⟨c0, c1, c2, c3, d0, d1, d2, d3, cl⟩ := HX.out) | (with_reducible refine ((HA.out _).mono ?_); rintro e w' ⟨rfl, hb⟩; replace HX := Lib.hid (HX.out.keep hb); replace HB := Lib.hid (bch' HB.out hb); clear hb; clear c0 c1 c2 c3 d0 d1 d2 d3 cl; obtain ⟨c0, c1, c2, c3, d0, d1, d2, d3, cl⟩ := HX.out) | (with_reducible refine ((HK.out _).mono ?_); rintro e w' ⟨rfl, hb⟩; replace HX := Lib.hid (HX.out.keep hb); replace HB := Lib.hid (bch' HB.out hb); clear hb; clear c0 c1 c2 c3 d0 d1 d2 d3 cl; obtain ⟨c0, c1, c2, c3, d0, d1, d2, d3, cl⟩ := HX.out) | (with_reducible refine ((HWH.out _).mono ?_); rintro e w' ⟨rfl, hb⟩; replace HX := Lib.hid (HX.out.keep hb); replace HB := Lib.hid (bch' HB.out hb); clear hb; clear c0 c1 c2 c3 d0 d1 d2 d3 cl; obtain ⟨c0, c1, c2, c3, d0, d1, d2, d3, cl⟩ := HX.out) | (with_reducible refine ((HO.out _).mono ?_); rintro e w' ⟨rfl, hb⟩; replace HX := Lib.hid (HX.out.keep hb); replace HB := Lib.hid (bch' HB.out hb); clear hb; clear c0 c1 c2 c3 d0 d1 d2 d3 cl; obtain ⟨c0, c1, c2, c3, d0, d1, d2, d3, cl⟩ := HX.out) | (with_reducible refine ((HAW.out _ (ENV.out.below HB.out)).mono ?_); rintro e w' ⟨rfl, hb⟩; replace HX := Lib.hid (HX.out.keep hb); replace HB := Lib.hid (bch' HB.out hb); clear hb; clear c0 c1 c2 c3 d0 d1 d2 d3 cl; obtain ⟨c0, c1, c2, c3, d0, d1, d2, d3, cl⟩ := HX.out))
    go_ret
    exact ⟨rfl, HB.out⟩
end Go.Proofs.YtnjaikomoljmjaaGreatDoor
