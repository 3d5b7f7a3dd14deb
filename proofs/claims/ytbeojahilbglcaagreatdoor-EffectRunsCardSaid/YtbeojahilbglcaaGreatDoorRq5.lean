/-
  The reference of layer 2 (ratio): what is asked of every two texts.
-/
import Derived.Test.YtbeojahilbglcaaGreatDoorKd
set_option linter.unusedVariables false
set_option linter.unusedSimpArgs false
namespace Lum
open Go Go.RowKit Go.Shelf
open Go.Lib (decDigits itoa)
theorem qSum_cases (x y : Rat) : qSum x y = 0 ∨ qSum x y = 23 := by unfold qSum; split <;> simp
theorem qCross_cases (x y : Rat) : qCross x y = 0 ∨ qCross x y = 23 := by unfold qCross; split <;> simp
theorem qAdd_sum (x y : Rat) : qAdd x y = if qSum x y = 0 then (showR (x + y), 0) else ([], 23) := by
  have hs : qSum x y = if (long (x.num * ↑y.den) || long (y.num * ↑x.den) || long (x.num * ↑y.den + y.num * ↑x.den) || long (↑x.den * ↑y.den)) = true then 23 else 0 := rfl
  rw [hs]
  unfold qAdd
  by_cases h : (long (x.num * ↑y.den) || long (y.num * ↑x.den) || long (x.num * ↑y.den + y.num * ↑x.den) || long (↑x.den * ↑y.den)) = true
  · rw [if_pos h, if_pos h]; rfl
  · rw [if_neg h, if_neg h]; rfl
theorem qSub_neg (x y : Rat) : qSub x y = qAdd x (-y) := by
  unfold qSub qAdd
  rw [Rat.neg_num, Rat.neg_den, Rat.sub_eq_add_neg]
  have h1 : long (-y.num * (x.den : Int)) = long (y.num * x.den) := by
    rw [long_dl, long_dl, Int.neg_mul, dl_neg]
  rw [h1, Int.neg_mul, ← Int.sub_eq_add_neg]
theorem qCmp_cross (x y : Rat) : qCmp x y = if qCross x y = 0 then (sgn x y, 0) else (0, 23) := by
  have hs : qCross x y = if (long (x.num * ↑y.den) || long (y.num * ↑x.den)) = true then 23 else 0 := rfl
  rw [hs]
  unfold qCmp
  by_cases h : (long (x.num * ↑y.den) || long (y.num * ↑x.den)) = true
  · rw [if_pos h, if_pos h]; rfl
  · rw [if_neg h, if_neg h]; rfl
theorem fit_of_fits {x : Rat} (h : Fit x) (k : Nat) (hk : 4096 ≤ k) : Fits k x := ((fit_fits x).1 h).mono hk
theorem sgn_lt (x y : Rat) : sgn x y < 0 ↔ x < y := by
  unfold sgn
  split
  · simp_all
  · rename_i h; split <;> simp_all
theorem sgn_gt (x y : Rat) : 0 < sgn x y ↔ y < x := by
  unfold sgn
  split
  · rename_i h; simp; exact Rat.not_lt.2 (Rat.le_of_lt h)
  · split <;> simp_all
theorem showR_zero : showR 0 = [48] := by rw [show (0 : Rat) = ((0 : Int) : Rat) from rfl, showR_int, itoa_zero]
/-- What Min and Max give. -/
def minT (a b : Txt) : Txt × Int := if (cTwo a b).2 ≠ 0 then ([], (cTwo a b).2) else (if 0 < (cTwo a b).1 then b else a, 0)
def maxT (a b : Txt) : Txt × Int := if (cTwo a b).2 ≠ 0 then ([], (cTwo a b).2) else (if (cTwo a b).1 < 0 then b else a, 0)
theorem cTwo_ok {x y : Rat} (hx : Fit x) (hy : Fit y) : cTwo (showR x) (showR y) = qCmp x y := by
  unfold cTwo checkTwo
  rw [ratCheck_showR x hx, ratCheck_showR y hy, valR_showR, valR_showR]
  rfl
theorem cTwo_zero {a b : Txt} (h : (cTwo a b).2 = 0) : ∃ x y, a = showR x ∧ b = showR y ∧ Fit x ∧ Fit y ∧ (cTwo a b).1 = sgn x y := by
  by_cases hc : checkTwo a b = 0
  · obtain ⟨x, y, rfl, rfl, fx, fy⟩ := checkTwo_ok hc
    rw [cTwo_ok fx fy, qCmp_cross] at *
    refine ⟨x, y, rfl, rfl, fx, fy, ?_⟩
    split
    · rfl
    · rename_i h2; rw [if_neg h2] at h; cases h
  · unfold cTwo at h; rw [if_pos hc] at h; exact absurd h hc
/-- What Mix gives. -/
def mixT (a b w : Txt) : Txt × Int :=
  if checkTwo a b ≠ 0 then ([], checkTwo a b) else if ratCheck w ≠ 0 then ([], ratCheck w)
  else if (rTwo b a qSub).2 ≠ 0 then ([], (rTwo b a qSub).2)
  else if (rTwo (rTwo b a qSub).1 w qMul).2 ≠ 0 then ([], (rTwo (rTwo b a qSub).1 w qMul).2)
  else rTwo a (rTwo (rTwo b a qSub).1 w qMul).1 qAdd
/-- What Clamp gives. -/
def clampT (a : Txt) (lo hi : Int) : Txt × Int :=
  if ratCheck a ≠ 0 then ([], ratCheck a) else if hi < lo then ([], 2)
  else if (cTwo a (itoa lo)).2 ≠ 0 then ([], (cTwo a (itoa lo)).2) else if (cTwo a (itoa hi)).2 ≠ 0 then ([], (cTwo a (itoa hi)).2)
  else (showR (clampR (valR a) lo hi), 0)
theorem len_ok {x : Rat} {k : Nat} (h : Fits k x) (hk : k ≤ 40000) : (showR x).length ≤ 100000 := by have := showR_len x k h; omega
theorem rTwo_len (a b : Txt) (r : Rat → Rat → Txt × Int) (h : ∀ x y, Fit x → Fit y → (r x y).1.length ≤ 100000) : (rTwo a b r).1.length ≤ 100000 := by
  by_cases hc : checkTwo a b = 0
  · obtain ⟨x, y, rfl, rfl, fx, fy⟩ := checkTwo_ok hc
    rw [rTwo_ok x y _ fx fy]; exact h x y fx fy
  · rw [rTwo_err _ hc]; simp
theorem qAdd_len (x y : Rat) (hx : Fit x) (hy : Fit y) : (qAdd x y).1.length ≤ 100000 := by
  rw [qAdd_sum]; split
  · exact len_ok (fits_add (fit_of_fits hx 4096 (by omega)) (fit_of_fits hy 4096 (by omega))) (by omega)
  · simp
theorem qSub_len (x y : Rat) (hx : Fit x) (hy : Fit y) : (qSub x y).1.length ≤ 100000 := by
  rw [qSub_neg, qAdd_sum]; split
  · exact len_ok (fits_add (fit_of_fits hx 4096 (by omega)) (fits_neg (fit_of_fits hy 4096 (by omega)))) (by omega)
  · simp
theorem qMul_len (x y : Rat) (hx : Fit x) (hy : Fit y) : (qMul x y).1.length ≤ 100000 := by
  unfold qMul; split
  · simp
  · exact len_ok (fits_mul (fit_of_fits hx 4096 (by omega)) (fit_of_fits hy 4096 (by omega))) (by omega)
theorem fit_neg {x : Rat} (h : Fit x) : Fit (-x) := (fit_fits _).2 (fits_neg ((fit_fits x).1 h))
theorem qDiv_len (x y : Rat) (hx : Fit x) (hy : Fit y) : (qDiv x y).1.length ≤ 100000 := by
  unfold qDiv; split
  · simp
  · split
    · simp
    · rename_i h0 _
      have hyn : y.num ≠ 0 := fun h => h0 (Rat.num_eq_zero.1 h)
      rw [div_divInt]
      have a := dl_mul x.num y.den
      have c := dl_mul x.den y.num
      have h1 := (fit_fits x).1 hx
      have h2 := (fit_fits y).1 hy
      have := h1.1; have := h1.2; have := h2.1; have := h2.2
      exact len_ok (divInt_fits _ _ (Int.mul_ne_zero (den_ne x) hyn) 8192 (by omega) (by omega)) (by omega)
end Lum
namespace Go.Proofs.YtbeojahilbglcaaGreatDoor
open Go.RowKit Go.Shelf Lum
open Go.Lib (decDigits itoa)
attribute [local go_sem] bs_get bs_extract_end bs_extract_from bs_extract bs_append

theorem r2_whole (n : Int) (w : World) (h0 : -9223372036854775808 ≤ n) (h1 : n ≤ 9223372036854775807) :
    Calls Tryz.prog 135 #[.int .i64 n] w fun e w' => e = .returned (.string ⟨(itoa n).toArray⟩) ∧ Below w.heap.size w w' := by
  have h := fun W => r1_whole n W h0 h1
  have H := Lib.hid h; clear h
  have HB := Lib.hid (Below.refl w.heap.size w)
  go_enter Tryz.func135, Tryz.ntmps135
  go_wp2_with (first | (with_reducible refine ((H.out _).mono ?_); rintro e w' ⟨rfl, hb⟩; replace HB := Lib.hid (bch' HB.out hb); clear hb))
  go_ret
  exact ⟨rfl, HB.out⟩

theorem r2_over (n d : Int) (w : World) (n0 : -9223372036854775808 ≤ n) (n1 : n ≤ 9223372036854775807) (d0 : -9223372036854775808 ≤ d) (d1 : d ≤ 9223372036854775807) (hd : d ≠ 0) :
    Calls Tryz.prog 132 #[.int .i64 n, .int .i64 d] w fun e w' => e = .returned (.string ⟨(showR (Rat.divInt n d)).toArray⟩) ∧ Below w.heap.size w w' := by
  have hn := fun W => r1_whole n W n0 n1
  have hm := fun W => r1_whole d W d0 d1
  have l1 := dl_i64 n n0 n1
  have l2 := dl_i64 d d0 d1
  have hr := fun W => r2_ratio n d W (by omega) (by omega) hd
  clear hd l1 l2
  have HN := Lib.hid hn; clear hn
  have HM := Lib.hid hm; clear hm
  have HR := Lib.hid hr; clear hr
  have HB := Lib.hid (Below.refl w.heap.size w)
  generalize showR (Rat.divInt n d) = r at *
  generalize itoa n = tn at *
  generalize itoa d = td at *
  go_enter Tryz.func132, Tryz.ntmps132
  go_wp2_with (first | (with_reducible refine ((HN.out _).mono ?_); rintro e w' ⟨rfl, hb⟩; replace HB := Lib.hid (bch' HB.out hb); clear hb) | (with_reducible refine ((HM.out _).mono ?_); rintro e w' ⟨rfl, hb⟩; replace HB := Lib.hid (bch' HB.out hb); clear hb) | (with_reducible refine ((HR.out _).mono ?_); rintro e w' ⟨rfl, hb⟩; replace HB := Lib.hid (bch' HB.out hb); clear hb))
  go_ret
  exact ⟨rfl, HB.out⟩

end Go.Proofs.YtbeojahilbglcaaGreatDoor
