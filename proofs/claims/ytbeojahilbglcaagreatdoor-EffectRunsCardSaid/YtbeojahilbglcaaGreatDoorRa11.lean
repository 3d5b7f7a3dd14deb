/-
  Own ratio: Min, Max, Neg, Floor, Round.
-/
import Derived.Test.YtbeojahilbglcaaGreatDoorRq5
set_option linter.unusedVariables false
set_option linter.unusedSimpArgs false
namespace Lum
open Go Go.RowKit Go.Shelf
open Go.Lib (decDigits itoa)
theorem floor_divInt (n d : Int) (hd : 0 < d) : (Rat.divInt n d).floor = n / d := by
  have key : ∀ z : Int, z ≤ (Rat.divInt n d).floor ↔ z ≤ n / d := by
    intro z
    rw [Rat.le_floor_iff, Int.le_ediv_iff_mul_le hd, ← Rat.not_lt, ← Int.not_lt, Rat.divInt_eq_div, Rat.div_lt_iff (by rw [show (0 : Rat) = ((0 : Int) : Rat) from rfl]; exact Rat.intCast_lt_intCast.2 hd), ← Rat.intCast_mul, Rat.intCast_lt_intCast]
  exact Int.le_antisymm ((key _).1 (Int.le_refl _)) ((key _).2 (Int.le_refl _))
theorem flr_floor (x : Rat) : flr x = x.floor := by
  rw [flr, Rat.floor_def, Int.fdiv_eq_ediv_of_nonneg _ (by omega)]
theorem near_round (x : Rat) : near x = if Int.fmod x.num x.den < x.den - Int.fmod x.num x.den then flr x else flr x + 1 := by
  have hp := x.den_pos
  rw [near, flr_floor (x + half), add_divInt]
  show (Rat.divInt (x.num * ((2 : Nat) : Int) + 1 * x.den) (x.den * ((2 : Nat) : Int))).floor = _
  rw [floor_divInt _ _ (by omega), flr, Int.fdiv_eq_ediv_of_nonneg _ (by omega), Int.fmod_eq_emod_of_nonneg _ (by omega)]
  have e := Int.mul_ediv_add_emod x.num x.den
  have l0 := Int.emod_nonneg x.num (show (x.den : Int) ≠ 0 by omega)
  have l1 := Int.emod_lt_of_pos x.num (show (0 : Int) < (x.den : Int) by omega)
  generalize x.num % (x.den : Int) = r at *
  generalize x.num / (x.den : Int) = k at *
  generalize hq : (x.den : Int) = q at *
  split
  · exact ((Int.ediv_emod_unique (r := 2 * r + q) (by omega)).2 ⟨by grind, by omega, by omega⟩).1
  · exact ((Int.ediv_emod_unique (r := 2 * r - q) (by omega)).2 ⟨by grind, by omega, by omega⟩).1
theorem negT_showR (x : Rat) : negT (showR x) = showR (-x) := by
  unfold showR
  rw [Rat.neg_num, Rat.neg_den]
  by_cases h : x.den = 1
  · rw [if_pos h, if_pos h, negT_itoa]
  · rw [if_neg h, if_neg h, ← negT_itoa]
    have hn : x.num ≠ 0 := fun h0 => h (by rw [Rat.num_eq_zero.1 h0]; rfl)
    have h1 : itoa x.num ≠ [48] := mt (itoa_eq_zero _).1 hn
    obtain ⟨c, r, e, _⟩ := itoa_cons x.num
    rw [e] at h1 ⊢
    unfold negT
    rw [if_neg (by simp), if_neg h1]
    by_cases hc : c = 45
    · subst hc; simp [minus]
    · simp [minus, hc]
theorem flr_dl (x : Rat) (h : Fit x) : dl (flr x) ≤ 4096 := by
  have f := ((fit_fits x).1 h).1
  have hp := x.den_pos
  refine Nat.le_trans (dl_mono ?_) f
  rw [flr, Int.fdiv_eq_ediv_of_nonneg _ (by omega)]
  rcases (show x.num < 0 ∨ 0 ≤ x.num by omega) with h | h
  · have h1 : x.num ≤ x.num / (x.den : Int) := (Int.le_ediv_iff_mul_le (by omega)).2 (by
      have := Int.mul_le_mul_of_nonpos_left (show x.num ≤ 0 by omega) (show (1 : Int) ≤ x.den by omega)
      omega)
    have h2 := Int.ediv_neg_of_neg_of_pos h (show (0 : Int) < x.den by omega)
    omega
  · have h1 := Int.ediv_le_self (x.den : Int) h
    have h2 := Int.ediv_nonneg h (show (0 : Int) ≤ x.den by omega)
    omega
theorem half_dl (a b : Int) (k : Nat) (h : a.natAbs * 2 ≤ b.natAbs + 2) (hb : dl b ≤ k + 1) : dl (a + 1) ≤ k + 1 := by
  rw [dl_le (by omega)] at hb ⊢
  rw [Nat.pow_succ] at hb ⊢
  have := Nat.pow_pos (n := k) (show 0 < 10 by omega)
  omega
theorem ret_two_str {a b : Txt} {v : Value} (h : a = b) : Ending.returned (.tuple #[.string ⟨a.toArray⟩, v]) = .returned (.tuple #[.string ⟨b.toArray⟩, v]) := by rw [h]
/-- What Neg, Floor and Round give. -/
def negR (a : Txt) : Txt × Int := if ratCheck a ≠ 0 then ([], ratCheck a) else (showR (-(valR a)), 0)
def floorT (a : Txt) : Txt × Int := if ratCheck a ≠ 0 then ([], ratCheck a) else (itoa (flr (valR a)), 0)
def roundT (a : Txt) : Txt × Int := if ratCheck a ≠ 0 then ([], ratCheck a) else (itoa (near (valR a)), 0)
theorem checkAll_three (a b c : Txt) : checkAll [a, b, c] = if checkTwo a b ≠ 0 then checkTwo a b else ratCheck c := by
  unfold checkTwo
  simp only [checkAll]
  by_cases h1 : ratCheck a = 0 <;> by_cases h2 : ratCheck b = 0 <;> by_cases h3 : ratCheck c = 0 <;> simp_all
theorem qCross_small {x y : Rat} (hx : Fits 2000 x) (hy : Fits 2000 y) : qCross x y = 0 := by
  unfold qCross longP
  have a := dl_mul x.num y.den
  have b := dl_mul y.num x.den
  have := hx.1; have := hx.2; have := hy.1; have := hy.2
  rw [if_neg]
  simp only [Bool.or_eq_true, decide_eq_true_eq]
  omega
theorem fit_i64 (n : Int) (h0 : -9223372036854775808 ≤ n) (h1 : n ≤ 9223372036854775807) : Fit (n : Rat) := (fit_fits _).2 ((fits_i64 n h0 h1).mono (by omega))
end Lum
namespace Go.Proofs.YtbeojahilbglcaaGreatDoor
open Go.RowKit Go.Shelf Lum
open Go.Lib (decDigits itoa)
attribute [local go_sem] bs_get bs_extract_end bs_extract_from bs_extract bs_append

set_option maxHeartbeats 1000000 in
theorem own_floor (a : Txt) (w : World) (ha : a.length ≤ 100000) (env : Env w) :
    Calls Tryz.prog 196 #[.string ⟨(a).toArray⟩] w fun e w' => e = .returned (.tuple #[.string ⟨((floorT a).1).toArray⟩, .int .i64 ((floorT a).2)]) ∧ Below w.heap.size w w' := by
  have hc := fun W (e : Env W) => own_rcheck a W ha e
  unfold floorT
  by_cases hz : ratCheck a = 0
  · rw [if_neg (by simpa using hz)]
    rw [hz] at hc
    obtain ⟨x, rfl, fx⟩ := ratCheck_zero a hz
    have hp := fun W (e : Env W) => own_parts (showR x) W (by omega) e
    rw [top_showR, bot_showR, ← itoa_nat] at hp
    have hq := fun W (e : Env W) => own_quo x.num x.den W ((fit_fits x).1 fx).1 ((fit_fits x).1 fx).2 (den_ne x) e
    rw [show x.num.fdiv x.den = flr x from rfl, wrT_ok _ (flr_dl x fx)] at hq
    rw [valR_showR]
    generalize showR x = a at *
    generalize itoa (flr x) = f at *
    generalize itoa x.num = tp at *
    generalize itoa (x.den : Int) = tq at *
    generalize hasSlash a = hs at *
    clear hz fx
    have HC := Lib.hid hc; clear hc
    have HP := Lib.hid hp; clear hp
    have HQ := Lib.hid hq; clear hq
    have HB := Lib.hid (Below.refl w.heap.size w)
    have ENV := Lib.hid env; clear env
    go_enter Tryz.func196, Tryz.ntmps196
    go_wp2_with (first | (with_reducible refine ((HC.out _ (ENV.out.below HB.out)).mono ?_); rintro e w' ⟨rfl, hb⟩; replace HB := Lib.hid (bch' HB.out hb); clear hb) | (with_reducible refine ((HP.out _ (ENV.out.below HB.out)).mono ?_); rintro e w' ⟨rfl, hb⟩; replace HB := Lib.hid (bch' HB.out hb); clear hb) | (with_reducible refine ((HQ.out _ (ENV.out.below HB.out)).mono ?_); rintro e w' ⟨rfl, hb⟩; replace HB := Lib.hid (bch' HB.out hb); clear hb))
    go_ret2
    exact ⟨rfl, HB.out⟩
  · rw [if_pos hz]
    have hne : ((ratCheck a : Int) != 0) = true := by simpa using hz
    generalize ratCheck a = m at *
    clear hz ha
    have HC := Lib.hid hc; clear hc
    have HB := Lib.hid (Below.refl w.heap.size w)
    have ENV := Lib.hid env; clear env
    go_enter Tryz.func196, Tryz.ntmps196
    go_wp2_with (first | (with_reducible refine ((HC.out _ (ENV.out.below HB.out)).mono ?_); rintro e w' ⟨rfl, hb⟩; replace HB := Lib.hid (bch' HB.out hb); clear hb))
    go_ret2
    exact ⟨rfl, HB.out⟩

end Go.Proofs.YtbeojahilbglcaaGreatDoor
