/-
  Own and reference ratio: Mix, Clamp, Few.
-/
import Derived.Test.YtbeojahilbglcaaGreatDoorRa11
set_option linter.unusedVariables false
set_option linter.unusedSimpArgs false
namespace Lum
open Go Go.RowKit Go.Shelf
open Go.Lib (decDigits itoa)
theorem mixT_all (a b c : Txt) : mixT a b c = if checkAll [a, b, c] ≠ 0 then ([], checkAll [a, b, c]) else if (rTwo b a qSub).2 ≠ 0 then ([], (rTwo b a qSub).2)
    else if (rTwo (rTwo b a qSub).1 c qMul).2 ≠ 0 then ([], (rTwo (rTwo b a qSub).1 c qMul).2) else rTwo a (rTwo (rTwo b a qSub).1 c qMul).1 qAdd := by
  unfold mixT
  rw [checkAll_three]
  by_cases h1 : checkTwo a b = 0
  · by_cases h2 : ratCheck c = 0
    · simp only [h1, h2, ne_eq, not_true_eq_false, if_false]
    · simp only [h1, h2, ne_eq, not_true_eq_false, not_false_eq_true, if_false, if_true]
  · simp only [h1, ne_eq, not_false_eq_true, if_true]
theorem maxT_2 (a b : Txt) : (maxT a b).2 = (cTwo a b).2 := by
  unfold maxT
  by_cases h : (cTwo a b).2 = 0
  · rw [if_neg (by simpa using h), h]
  · rw [if_pos h]
theorem cTwo_sgn {x y : Rat} (hx : Fit x) (hy : Fit y) (h : (cTwo (showR x) (showR y)).2 = 0) : cTwo (showR x) (showR y) = (sgn x y, 0) := by
  rw [cTwo_ok hx hy, qCmp_cross] at *
  split
  · rfl
  · rename_i h2; rw [if_neg h2] at h; cases h
theorem cTwo_small {x y : Rat} (hx : Fits 2000 x) (hy : Fits 2000 y) : cTwo (showR x) (showR y) = (sgn x y, 0) := by
  rw [cTwo_ok ((fit_fits x).2 (hx.mono (by omega))) ((fit_fits y).2 (hy.mono (by omega))), qCmp_cross, if_pos (qCross_small hx hy)]
theorem clamp_own (a : Txt) (lo hi : Int) (l0 : -9223372036854775808 ≤ lo) (l1 : lo ≤ 9223372036854775807) (g0 : -9223372036854775808 ≤ hi) (g1 : hi ≤ 9223372036854775807)
    (h0 : ratCheck a = 0) (h1 : ¬ hi < lo) (h2 : (cTwo a (itoa lo)).2 = 0) (h3 : (cTwo a (itoa hi)).2 = 0) : minT (maxT a (itoa lo)).1 (itoa hi) = (showR (clampR (valR a) lo hi), 0) := by
  obtain ⟨x, rfl, fx⟩ := ratCheck_zero a h0
  rw [← showR_int] at h2 h3 ⊢
  rw [← showR_int]
  have e2 := cTwo_sgn fx (fit_i64 lo l0 l1) h2
  have e3 := cTwo_sgn fx (fit_i64 hi g0 g1) h3
  have e4 := cTwo_small ((fits_i64 lo l0 l1).mono (show 19 ≤ 2000 by omega)) ((fits_i64 hi g0 g1).mono (show 19 ≤ 2000 by omega))
  rw [valR_showR]
  unfold maxT clampR
  rw [e2]
  simp only [ne_eq, not_true_eq_false, if_false]
  by_cases hx : x < (lo : Rat)
  · rw [if_pos ((sgn_lt _ _).2 hx), if_pos hx]
    unfold minT
    rw [e4]
    simp only [ne_eq, not_true_eq_false, if_false]
    rw [if_neg (mt (sgn_gt _ _).1 (by rw [Rat.intCast_lt_intCast]; exact h1))]
  · rw [if_neg (mt (sgn_lt _ _).1 hx), if_neg hx]
    unfold minT least
    rw [e3]
    simp only [ne_eq, not_true_eq_false, if_false]
    by_cases hh : (hi : Rat) < x
    · rw [if_pos ((sgn_gt _ _).2 hh), if_pos hh]
    · rw [if_neg (mt (sgn_gt _ _).1 hh), if_neg hh]
end Lum
namespace Go.Proofs.YtbeojahilbglcaaGreatDoor
open Go.RowKit Go.Shelf Lum
open Go.Lib (decDigits itoa)
attribute [local go_sem] bs_get bs_extract_end bs_extract_from bs_extract bs_append

theorem three_cells (W : World) (a b c : Value) (t : TypeId) : ∀ j, j < 3 → (W.alloc (.cells #[a, b, c] t)).cell? ⟨W.heap.size, j, none⟩ = some ([a, b, c][j]?.getD undef) := by
  intro j hj
  rw [World.cell?_alloc_new]
  match j, hj with
  | 0, _ => rfl
  | 1, _ => rfl
  | 2, _ => rfl
theorem own_checks3 (a b c : Txt) (w : World) (env : Env w) (ha : a.length ≤ 100000) (hb : b.length ≤ 100000) (hc : c.length ≤ 100000) :
    Calls Tryz.prog 137 #[.slice (some ⟨w.heap.size, 0, none⟩) 3 3] (w.alloc (.cells #[.string ⟨a.toArray⟩, .string ⟨b.toArray⟩, .string ⟨c.toArray⟩] 48)) fun e w' => e = .returned (.int .i64 (checkAll [a, b, c])) ∧ Below w.heap.size w w' := by
  have hB := (Below.refl w.heap.size w).alloc (Nat.le_refl _) (.cells #[.string ⟨a.toArray⟩, .string ⟨b.toArray⟩, .string ⟨c.toArray⟩] 48)
  have h := own_checks [a, b, c] w.heap.size (w.alloc (.cells #[.string ⟨a.toArray⟩, .string ⟨b.toArray⟩, .string ⟨c.toArray⟩] 48)) (env.below hB) (by simp) (by intro l hl; simp at hl; rcases hl with rfl | rfl | rfl <;> assumption) (by simp) (by
    intro j hj
    rw [three_cells w _ _ _ _ j hj]
    match j, hj with
    | 0, _ => rfl
    | 1, _ => rfl
    | 2, _ => rfl)
  exact h.mono fun e w' ⟨h1, h2⟩ => ⟨h1, bch' hB h2⟩

set_option maxRecDepth 100000 in
set_option maxHeartbeats 2000000 in
theorem own_mix (a b c : Txt) (w : World) (ha : a.length ≤ 100000) (hb : b.length ≤ 100000) (hc : c.length ≤ 100000) (env : Env w) :
    Calls Tryz.prog 170 #[.string ⟨(a).toArray⟩, .string ⟨(b).toArray⟩, .string ⟨(c).toArray⟩] w fun e w' => e = .returned (.tuple #[.string ⟨((mixT a b c).1).toArray⟩, .int .i64 ((mixT a b c).2)]) ∧ Below w.heap.size w w' := by
  have hk := own_checks3 a b c w env ha hb hc
  rw [mixT_all]
  have la := rTwo_len b a qSub qSub_len
  have lm := rTwo_len (rTwo b a qSub).1 c qMul qMul_len
  have hs := fun W (e : Env W) => own_rsub b a W e hb ha
  have hm := fun W (e : Env W) => own_rmul (rTwo b a qSub).1 c W e la hc
  have hp := fun W (e : Env W) => own_radd a (rTwo (rTwo b a qSub).1 c qMul).1 W e ha lm
  clear la lm
  generalize rTwo a (rTwo (rTwo b a qSub).1 c qMul).1 qAdd = z at *
  generalize rTwo (rTwo b a qSub).1 c qMul = y at *
  generalize rTwo b a qSub = x at *
  obtain ⟨x1, x2⟩ := x
  obtain ⟨y1, y2⟩ := y
  dsimp only at hs hm hp ⊢
  generalize checkAll [a, b, c] = k at *
  clear ha hb hc
  have HS := Lib.hid hs; clear hs
  have HM := Lib.hid hm; clear hm
  have HP := Lib.hid hp; clear hp
  have HK := Lib.hid hk; clear hk
  have ENV := Lib.hid env; clear env
  by_cases h1 : k = 0
  · subst h1
    rw [if_neg (by simp)]
    by_cases h2 : x2 = 0
    · subst h2
      rw [if_neg (by simp)]
      by_cases h3 : y2 = 0
      · subst h3
        rw [if_neg (by simp)]
        go_enter Tryz.func170, Tryz.ntmps170; go_wp2_with fail; refine ((HK.out).mono ?_); rintro e w1 ⟨rfl, hb⟩; have HB := Lib.hid hb; clear hb
        go_wp2_with (first | (with_reducible refine ((HS.out _ (ENV.out.below HB.out)).mono ?_); rintro e w' ⟨rfl, hb⟩; replace HB := Lib.hid (bch' HB.out hb); clear hb) | (with_reducible refine ((HM.out _ (ENV.out.below HB.out)).mono ?_); rintro e w' ⟨rfl, hb⟩; replace HB := Lib.hid (bch' HB.out hb); clear hb) | (with_reducible refine ((HP.out _ (ENV.out.below HB.out)).mono ?_); rintro e w' ⟨rfl, hb⟩; replace HB := Lib.hid (bch' HB.out hb); clear hb))
        go_ret2
        exact ⟨rfl, HB.out⟩
      · rw [if_pos h3]
        have hne : ((y2 : Int) != 0) = true := by simpa using h3
        clear h3
        go_enter Tryz.func170, Tryz.ntmps170; go_wp2_with fail; refine ((HK.out).mono ?_); rintro e w1 ⟨rfl, hb⟩; have HB := Lib.hid hb; clear hb
        go_wp2_with (first | (with_reducible refine ((HS.out _ (ENV.out.below HB.out)).mono ?_); rintro e w' ⟨rfl, hb⟩; replace HB := Lib.hid (bch' HB.out hb); clear hb) | (with_reducible refine ((HM.out _ (ENV.out.below HB.out)).mono ?_); rintro e w' ⟨rfl, hb⟩; replace HB := Lib.hid (bch' HB.out hb); clear hb) | (with_reducible refine ((HP.out _ (ENV.out.below HB.out)).mono ?_); rintro e w' ⟨rfl, hb⟩; replace HB := Lib.hid (bch' HB.out hb); clear hb))
        go_ret2
        exact ⟨rfl, HB.out⟩
    · rw [if_pos h2]
      have hne : ((x2 : Int) != 0) = true := by simpa using h2
      clear h2
      go_enter Tryz.func170, Tryz.ntmps170; go_wp2_with fail; refine ((HK.out).mono ?_); rintro e w1 ⟨rfl, hb⟩; have HB := Lib.hid hb; clear hb
      go_wp2_with (first | (with_reducible refine ((HS.out _ (ENV.out.below HB.out)).mono ?_); rintro e w' ⟨rfl, hb⟩; replace HB := Lib.hid (bch' HB.out hb); clear hb) | (with_reducible refine ((HM.out _ (ENV.out.below HB.out)).mono ?_); rintro e w' ⟨rfl, hb⟩; replace HB := Lib.hid (bch' HB.out hb); clear hb) | (with_reducible refine ((HP.out _ (ENV.out.below HB.out)).mono ?_); rintro e w' ⟨rfl, hb⟩; replace HB := Lib.hid (bch' HB.out hb); clear hb))
      go_ret2
      exact ⟨rfl, HB.out⟩
  · rw [if_pos h1]
    have hne : ((k : Int) != 0) = true := by simpa using h1
    clear h1
    go_enter Tryz.func170, Tryz.ntmps170; go_wp2_with fail; refine ((HK.out).mono ?_); rintro e w1 ⟨rfl, hb⟩; have HB := Lib.hid hb; clear hb
    go_wp2
    go_ret2
    exact ⟨rfl, HB.out⟩

end Go.Proofs.YtbeojahilbglcaaGreatDoor
