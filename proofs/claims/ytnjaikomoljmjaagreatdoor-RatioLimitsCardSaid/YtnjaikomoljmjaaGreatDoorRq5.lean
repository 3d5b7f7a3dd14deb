/-
  The reference of layer 2 (ratio): what is asked of every two texts.
-/
import Derived.Test.YtnjaikomoljmjaaGreatDoorKd
set_option linter.unusedVariables false
set_option linter.unusedSimpArgs false
namespace Lum
open Go Go.RowKit Go.Shelf
open Go.Lib (decDigits itoa)
theorem qSum_cases (x y : Rat) : qSum x y = 0 ∨ qSum x y = 23 := by unfold qSum; split <;> simp
theorem qCross_cases (x y : Rat) : qCross x y = 0 ∨ qCross x y = 23 := by unfold qCross; split <;> simp
theorem qAdd_sum (x y : Rat) : qAdd x y = if qSum x y = 0 then (showR (x + y), 0) else ([], 23) := by
  have hs : qSum x y = if (long (x.num * ↑y.den) || long (y.num * ↑x.den) || long (x.num * ↑y.den + y.num * ↑x.den) || long (↑x.den * ↑y.den)) = true then 23 else 0 := rfl
  rw [hs]
  unfold qAdd
  by_cases h : (long (x.num * ↑y.den) || long (y.num * ↑x.den) || long (x.num * ↑y.den + y.num * ↑x.den) || long (↑x.den * ↑y.den)) = true
  · rw [if_pos h, if_pos h]; rfl
  · rw [if_neg h, if_neg h]; rfl
theorem qSub_neg (x y : Rat) : qSub x y = qAdd x (-y) := by
  unfold qSub qAdd
  rw [Rat.neg_num, Rat.neg_den, Rat.sub_eq_add_neg]
  have h1 : long (-y.num * (x.den : Int)) = long (y.num * x.den) := by
    rw [long_dl, long_dl, Int.neg_mul, dl_neg]
  rw [h1, Int.neg_mul, ← Int.sub_eq_add_neg]
theorem qCmp_cross (x y : Rat) : qCmp x y = if qCross x y = 0 then (sgn x y, 0) else (0, 23) := by
  have hs : qCross x y = if (long (x.num * ↑y.den) || long (y.num * ↑x.den)) = true then 23 else 0 := rfl
  rw [hs]
  unfold qCmp
  by_cases h : (long (x.num * ↑y.den) || long (y.num * ↑x.den)) = true
  · rw [if_pos h, if_pos h]; rfl
  · rw [if_neg h, if_neg h]; rfl
theorem fit_of_fits {x : Rat} (h : Fit x) (k : Nat) (hk : 4096 ≤ k) : Fits k x := ((fit_fits x).1 h).mono hk
theorem sgn_lt (x y : Rat) : sgn x y < 0 ↔ x < y := by
  unfold sgn
  split
  · simp_all
  · rename_i h; split <;> simp_all
theorem sgn_gt (x y : Rat) : 0 < sgn x y ↔ y < x := by
  unfold sgn
  split
  · rename_i h; simp; exact Rat.not_lt.2 (Rat.le_of_lt h)
  · split <;> simp_all
theorem showR_zero : showR 0 = [48] := by rw [show (0 : Rat) = ((0 : Int) : Rat) from rfl, showR_int, itoa_zero]
/-- What Min and Max give. -/
def minT (a b : Txt) : Txt × Int := if (cTwo a b).2 ≠ 0 then ([], (cTwo a b).2) else (if 0 < (cTwo a b).1 then b else a, 0)
def maxT (a b : Txt) : Txt × Int := if (cTwo a b).2 ≠ 0 then ([], (cTwo a b).2) else (if (cTwo a b).1 < 0 then b else a, 0)
theorem cTwo_ok {x y : Rat} (hx : Fit x) (hy : Fit y) : cTwo (showR x) (showR y) = qCmp x y := by
  unfold cTwo checkTwo
  rw [ratCheck_showR x hx, ratCheck_showR y hy, valR_showR, valR_showR]
  rfl
theorem cTwo_zero {a b : Txt} (h : (cTwo a b).2 = 0) : ∃ x y, a = showR x ∧ b = showR y ∧ Fit x ∧ Fit y ∧ (cTwo a b).1 = sgn x y := by
  by_cases hc : checkTwo a b = 0
  · obtain ⟨x, y, rfl, rfl, fx, fy⟩ := checkTwo_ok hc
    rw [cTwo_ok fx fy, qCmp_cross] at *
    refine ⟨x, y, rfl, rfl, fx, fy, ?_⟩
    split
    · rfl
    · rename_i h2; rw [if_neg h2] at h; cases h
  · unfold cTwo at h; rw [if_pos hc] at h; exact absurd h hc
/-- What Mix gives. -/
def mixT (a b w : Txt) : Txt × Int :=
  if checkTwo a b ≠ 0 then ([], checkTwo a b) else if ratCheck w ≠ 0 then ([], ratCheck w)
  else if (rTwo b a qSub).2 ≠ 0 then ([], (rTwo b a qSub).2)
  else if (rTwo (rTwo b a qSub).1 w qMul).2 ≠ 0 then ([], (rTwo (rTwo b a qSub).1 w qMul).2)
  else rTwo a (rTwo (rTwo b a qSub).1 w qMul).1 qAdd
/-- What Clamp gives. -/
def clampT (a : Txt) (lo hi : Int) : Txt × Int :=
  if ratCheck a ≠ 0 then ([], ratCheck a) else if hi < lo then ([], 2)
  else if (cTwo a (itoa lo)).2 ≠ 0 then ([], (cTwo a (itoa lo)).2) else if (cTwo a (itoa hi)).2 ≠ 0 then ([], (cTwo a (itoa hi)).2)
  else (showR (clampR (valR a) lo hi), 0)
theorem len_ok {x : Rat} {k : Nat} (h : Fits k x) (hk : k ≤ 40000) : (showR x).length ≤ 100000 := by have := showR_len x k h; omega
theorem rTwo_len (a b : Txt) (r : Rat → Rat → Txt × Int) (h : ∀ x y, Fit x → Fit y → (r x y).1.length ≤ 100000) : (rTwo a b r).1.length ≤ 100000 := by
  by_cases hc : checkTwo a b = 0
  · obtain ⟨x, y, rfl, rfl, fx, fy⟩ := checkTwo_ok hc
    rw [rTwo_ok x y _ fx fy]; exact h x y fx fy
  · rw [rTwo_err _ hc]; simp
theorem qAdd_len (x y : Rat) (hx : Fit x) (hy : Fit y) : (qAdd x y).1.length ≤ 100000 := by
  rw [qAdd_sum]; split
  · exact len_ok (fits_add (fit_of_fits hx 4096 (by omega)) (fit_of_fits hy 4096 (by omega))) (by omega)
  · simp
theorem qSub_len (x y : Rat) (hx : Fit x) (hy : Fit y) : (qSub x y).1.length ≤ 100000 := by
  rw [qSub_neg, qAdd_sum]; split
  · exact len_ok (fits_add (fit_of_fits hx 4096 (by omega)) (fits_neg (fit_of_fits hy 4096 (by omega)))) (by omega)
  · simp
theorem qMul_len (x y : Rat) (hx : Fit x) (hy : Fit y) : (qMul x y).1.length ≤ 100000 := by
  unfold qMul; split
  · simp
  · exact len_ok (fits_mul (fit_of_fits hx 4096 (by omega)) (fit_of_fits hy 4096 (by omega))) (by omega)
theorem fit_neg {x : Rat} (h : Fit x) : Fit (-x) := (fit_fits _).2 (fits_neg ((fit_fits x).1 h))
theorem qDiv_len (x y : Rat) (hx : Fit x) (hy : Fit y) : (qDiv x y).1.length ≤ 100000 := by
  unfold qDiv; split
  · simp
  · split
    · simp
    · rename_i h0 _
      have hyn : y.num ≠ 0 := fun h => h0 (Rat.num_eq_zero.1 h)
      rw [div_divInt]
      have a := dl_mul x.num y.den
      have c := dl_mul x.den y.num
      have h1 := (fit_fits x).1 hx
      have h2 := (fit_fits y).1 hy
      have := h1.1; have := h1.2; have := h2.1; have := h2.2
      exact len_ok (divInt_fits _ _ (Int.mul_ne_zero (den_ne x) hyn) 8192 (by omega) (by omega)) (by omega)
end Lum
namespace Go.Proofs.YtnjaikomoljmjaaGreatDoor
open Go.RowKit Go.Shelf Lum
open Go.Lib (decDigits itoa)
attribute [local go_sem] bs_get bs_extract_end bs_extract_from bs_extract bs_append

theorem r2_whole (n : Int) (w : World) (h0 : -9223372036854775808 ≤ n) (h1 : n ≤ 9223372036854775807) :
    Calls Tryz.prog 32 #[.int .i64 n] w fun e w' => e = .returned (.string ⟨(itoa n).toArray⟩) ∧ Below w.heap.size w w' := by
  have h := fun W => r1_whole n W h0 h1
  have H := Lib.hid h; clear h
  have HB := Lib.hid (Below.refl w.heap.size w)
  go_enter Tryz.func32, Tryz.ntmps32
  go_wp2_with (first | (with_reducible refine ((H.out _).mono ?_); rintro e w' ⟨rfl, hb⟩; replace HB := Lib.hid (bch' HB.out hb); clear hb))
  go_ret
  exact ⟨rfl, HB.out⟩

theorem r2_over (n d : Int) (w : World) (n0 : -9223372036854775808 ≤ n) (n1 : n ≤ 9223372036854775807) (d0 : -9223372036854775808 ≤ d) (d1 : d ≤ 9223372036854775807) (hd : d ≠ 0) :
    Calls Tryz.prog 33 #[.int .i64 n, .int .i64 d] w fun e w' => e = .returned (.string ⟨(showR (Rat.divInt n d)).toArray⟩) ∧ Below w.heap.size w w' := by
  have hn := fun W => r1_whole n W n0 n1
  have hm := fun W => r1_whole d W d0 d1
  have l1 := dl_i64 n n0 n1
  have l2 := dl_i64 d d0 d1
  have hr := fun W => r2_ratio n d W (by omega) (by omega) hd
  clear hd l1 l2
  have HN := Lib.hid hn; clear hn
  have HM := Lib.hid hm; clear hm
  have HR := Lib.hid hr; clear hr
  have HB := Lib.hid (Below.refl w.heap.size w)
  generalize showR (Rat.divInt n d) = r at *
  generalize itoa n = tn at *
  generalize itoa d = td at *
  go_enter Tryz.func33, Tryz.ntmps33
  go_wp2_with (first | (with_reducible refine ((HN.out _).mono ?_); rintro e w' ⟨rfl, hb⟩; replace HB := Lib.hid (bch' HB.out hb); clear hb) | (with_reducible refine ((HM.out _).mono ?_); rintro e w' ⟨rfl, hb⟩; replace HB := Lib.hid (bch' HB.out hb); clear hb) | (with_reducible refine ((HR.out _).mono ?_); rintro e w' ⟨rfl, hb⟩; replace HB := Lib.hid (bch' HB.out hb); clear hb))
  go_ret
  exact ⟨rfl, HB.out⟩

theorem r2_part (n d : Int) (w : World) (n0 : -9223372036854775808 ≤ n) (n1 : n ≤ 9223372036854775807) (d0 : -9223372036854775808 ≤ d) (d1 : d ≤ 9223372036854775807) :
    Calls Tryz.prog 77 #[.int .i64 n, .int .i64 d] w fun e w' => e = .returned (.tuple #[.string ⟨((partT n d).1).toArray⟩, .int .i64 ((partT n d).2)]) ∧ Below w.heap.size w w' := by
  by_cases hd : d = 0
  · subst hd
    rw [show partT n 0 = ([], 15) by unfold partT; rw [if_pos rfl]]
    have HB := Lib.hid (Below.refl w.heap.size w)
    go_enter Tryz.func77, Tryz.ntmps77
    go_wp2_with fail
    go_ret2
    exact ⟨rfl, HB.out⟩
  · rw [show partT n d = (showR (Rat.divInt n d), 0) by unfold partT; rw [if_neg hd]]
    have hr := fun W => r2_over n d W n0 n1 d0 d1 hd
    have hne : ((d : Int) == 0) = false := by simpa using hd
    clear hd n0 n1 d0 d1
    have HR := Lib.hid hr; clear hr
    have HB := Lib.hid (Below.refl w.heap.size w)
    generalize showR (Rat.divInt n d) = r at *
    go_enter Tryz.func77, Tryz.ntmps77
    go_wp2_with (first | (with_reducible refine ((HR.out _).mono ?_); rintro e w' ⟨rfl, hb⟩; replace HB := Lib.hid (bch' HB.out hb); clear hb))
    go_ret2
    exact ⟨rfl, HB.out⟩

theorem r2_of (a b : Txt) (w : World) (ha : a.length ≤ 10000) (hb : b.length ≤ 10000) :
    Calls Tryz.prog 75 #[.string ⟨(a).toArray⟩, .string ⟨(b).toArray⟩] w fun e w' => e = .returned (.tuple #[.string ⟨((ofT a b).1).toArray⟩, .int .i64 ((ofT a b).2)]) ∧ Below w.heap.size w w' := by
  have hca := fun W => r1_check a W (by omega)
  have hcb := fun W => r1_check b W (by omega)
  unfold ofT
  by_cases h1 : intCheck a = 0
  · rw [if_neg (by simpa using h1)]
    rw [h1] at hca
    by_cases h2 : intCheck b = 0
    · rw [if_neg (by simpa using h2)]
      rw [h2] at hcb
      obtain ⟨ea, la⟩ := intCheck_zero h1
      obtain ⟨eb, lb⟩ := intCheck_zero h2
      by_cases h3 : b = [48]
      · rw [if_pos h3]
        subst h3
        clear ea la eb lb h1 h2 ha hb
        have HCA := Lib.hid hca; clear hca
        have HCB := Lib.hid hcb; clear hcb
        have HB := Lib.hid (Below.refl w.heap.size w)
        go_enter Tryz.func75, Tryz.ntmps75
        go_wp2_with (first | (with_reducible refine ((HCA.out _).mono ?_); rintro e w' ⟨rfl, rfl⟩) | (with_reducible refine ((HCB.out _).mono ?_); rintro e w' ⟨rfl, rfl⟩))
        go_ret2
        exact ⟨rfl, HB.out⟩
      · rw [if_neg h3]
        have hz : zOf b ≠ 0 := fun h => h3 (by rw [eb, h, itoa_zero])
        have hr := fun W => r2_ratio (zOf a) (zOf b) W (by omega) (by omega) hz
        rw [← ea, ← eb] at hr
        have hne : (b == [48]) = false := by simpa using h3
        generalize showR (Rat.divInt (zOf a) (zOf b)) = r at *
        clear ea la eb lb h1 h2 h3 hz ha hb
        have HCA := Lib.hid hca; clear hca
        have HCB := Lib.hid hcb; clear hcb
        have HR := Lib.hid hr; clear hr
        have HB := Lib.hid (Below.refl w.heap.size w)
        go_enter Tryz.func75, Tryz.ntmps75
        go_wp2_with (first | (with_reducible refine ((HCA.out _).mono ?_); rintro e w' ⟨rfl, rfl⟩) | (with_reducible refine ((HCB.out _).mono ?_); rintro e w' ⟨rfl, rfl⟩) | (with_reducible refine ((HR.out _).mono ?_); rintro e w' ⟨rfl, hb⟩; replace HB := Lib.hid (bch' HB.out hb); clear hb))
        go_ret2
        exact ⟨rfl, HB.out⟩
    · rw [if_pos h2]
      have hne : ((intCheck b : Int) != 0) = true := by simpa using h2
      generalize intCheck b = m at *
      clear h1 h2 ha hb
      have HCA := Lib.hid hca; clear hca
      have HCB := Lib.hid hcb; clear hcb
      have HB := Lib.hid (Below.refl w.heap.size w)
      go_enter Tryz.func75, Tryz.ntmps75
      go_wp2_with (first | (with_reducible refine ((HCA.out _).mono ?_); rintro e w' ⟨rfl, rfl⟩) | (with_reducible refine ((HCB.out _).mono ?_); rintro e w' ⟨rfl, rfl⟩))
      go_ret2
      exact ⟨rfl, HB.out⟩
  · rw [if_pos h1]
    have hne : ((intCheck a : Int) != 0) = true := by simpa using h1
    generalize intCheck a = m at *
    clear h1 ha hb
    have HCA := Lib.hid hca; clear hca
    have HCB := Lib.hid hcb; clear hcb
    have HB := Lib.hid (Below.refl w.heap.size w)
    go_enter Tryz.func75, Tryz.ntmps75
    go_wp2_with (first | (with_reducible refine ((HCA.out _).mono ?_); rintro e w' ⟨rfl, rfl⟩) | (with_reducible refine ((HCB.out _).mono ?_); rintro e w' ⟨rfl, rfl⟩))
    go_ret2
    exact ⟨rfl, HB.out⟩

theorem r2_least (x y : Rat) (w : World) (hx : Fits 9000 x) (hy : Fits 9000 y) :
    Calls Tryz.prog 72 #[.string ⟨(showR x).toArray⟩, .string ⟨(showR y).toArray⟩] w fun e w' => e = .returned (.string ⟨(showR (least x y)).toArray⟩) ∧ Below w.heap.size w w' := by
  have ho := fun W => r2_order y x W hy hx
  have hd : decide (sgn y x < 0) = decide (y < x) := by rw [decide_eq_decide]; exact sgn_lt y x
  unfold least
  generalize sgn y x = s at *
  clear hx hy
  have HO := Lib.hid ho; clear ho
  have HB := Lib.hid (Below.refl w.heap.size w)
  by_cases h : y < x
  · rw [if_pos h]
    rw [decide_eq_true h] at hd
    clear h
    go_enter Tryz.func72, Tryz.ntmps72
    go_wp2_with (first | (with_reducible refine ((HO.out _).mono ?_); rintro e w' ⟨rfl, hb⟩; replace HB := Lib.hid (bch' HB.out hb); clear hb))
    go_ret
    exact ⟨rfl, HB.out⟩
  · rw [if_neg h]
    rw [decide_eq_false h] at hd
    clear h
    go_enter Tryz.func72, Tryz.ntmps72
    go_wp2_with (first | (with_reducible refine ((HO.out _).mono ?_); rintro e w' ⟨rfl, hb⟩; replace HB := Lib.hid (bch' HB.out hb); clear hb))
    go_ret
    exact ⟨rfl, HB.out⟩

theorem r2_most (x y : Rat) (w : World) (hx : Fits 9000 x) (hy : Fits 9000 y) :
    Calls Tryz.prog 73 #[.string ⟨(showR x).toArray⟩, .string ⟨(showR y).toArray⟩] w fun e w' => e = .returned (.string ⟨(showR (most x y)).toArray⟩) ∧ Below w.heap.size w w' := by
  have ho := fun W => r2_order y x W hy hx
  have hd : decide (0 < sgn y x) = decide (x < y) := by rw [decide_eq_decide]; exact sgn_gt y x
  unfold most
  generalize sgn y x = s at *
  clear hx hy
  have HO := Lib.hid ho; clear ho
  have HB := Lib.hid (Below.refl w.heap.size w)
  by_cases h : x < y
  · rw [if_pos h]
    rw [decide_eq_true h] at hd
    clear h
    go_enter Tryz.func73, Tryz.ntmps73
    go_wp2_with (first | (with_reducible refine ((HO.out _).mono ?_); rintro e w' ⟨rfl, hb⟩; replace HB := Lib.hid (bch' HB.out hb); clear hb))
    go_ret
    exact ⟨rfl, HB.out⟩
  · rw [if_neg h]
    rw [decide_eq_false h] at hd
    clear h
    go_enter Tryz.func73, Tryz.ntmps73
    go_wp2_with (first | (with_reducible refine ((HO.out _).mono ?_); rintro e w' ⟨rfl, hb⟩; replace HB := Lib.hid (bch' HB.out hb); clear hb))
    go_ret
    exact ⟨rfl, HB.out⟩

set_option maxHeartbeats 1000000 in
theorem r2_within (x : Rat) (lo hi : Int) (w : World) (hx : Fits 9000 x) (l0 : -9223372036854775808 ≤ lo) (l1 : lo ≤ 9223372036854775807) (h0 : -9223372036854775808 ≤ hi) (h1 : hi ≤ 9223372036854775807) :
    Calls Tryz.prog 124 #[.string ⟨(showR x).toArray⟩, .int .i64 lo, .int .i64 hi] w fun e w' => e = .returned (.string ⟨(showR (clampR x lo hi)).toArray⟩) ∧ Below w.heap.size w w' := by
  have hl := fun W => r2_whole lo W l0 l1
  have hh := fun W => r2_whole hi W h0 h1
  have ho := fun W => r2_order x (lo : Rat) W hx ((fits_i64 lo l0 l1).mono (by omega))
  have hm := fun W => r2_least x (hi : Rat) W hx ((fits_i64 hi h0 h1).mono (by omega))
  rw [showR_int] at ho hm
  have hd : decide (sgn x (lo : Rat) < 0) = decide (x < (lo : Rat)) := by rw [decide_eq_decide]; exact sgn_lt x lo
  unfold clampR
  generalize sgn x (lo : Rat) = s at *
  clear hx l0 l1 h0 h1
  by_cases h : x < (lo : Rat)
  · rw [if_pos h, showR_int]
    rw [decide_eq_true h] at hd
    clear h
    generalize showR (least x (hi : Rat)) = u at *
    have HL := Lib.hid hl; clear hl
    have HH := Lib.hid hh; clear hh
    have HO := Lib.hid ho; clear ho
    have HM := Lib.hid hm; clear hm
    have HB := Lib.hid (Below.refl w.heap.size w)
    go_enter Tryz.func124, Tryz.ntmps124
    go_wp2_with (first | (with_reducible refine ((HL.out _).mono ?_); rintro e w' ⟨rfl, hb⟩; replace HB := Lib.hid (bch' HB.out hb); clear hb) | (with_reducible refine ((HH.out _).mono ?_); rintro e w' ⟨rfl, hb⟩; replace HB := Lib.hid (bch' HB.out hb); clear hb) | (with_reducible refine ((HO.out _).mono ?_); rintro e w' ⟨rfl, hb⟩; replace HB := Lib.hid (bch' HB.out hb); clear hb) | (with_reducible refine ((HM.out _).mono ?_); rintro e w' ⟨rfl, hb⟩; replace HB := Lib.hid (bch' HB.out hb); clear hb))
    go_ret
    exact ⟨rfl, HB.out⟩
  · rw [if_neg h]
    rw [decide_eq_false h] at hd
    clear h
    generalize showR (least x (hi : Rat)) = u at *
    have HL := Lib.hid hl; clear hl
    have HH := Lib.hid hh; clear hh
    have HO := Lib.hid ho; clear ho
    have HM := Lib.hid hm; clear hm
    have HB := Lib.hid (Below.refl w.heap.size w)
    go_enter Tryz.func124, Tryz.ntmps124
    go_wp2_with (first | (with_reducible refine ((HL.out _).mono ?_); rintro e w' ⟨rfl, hb⟩; replace HB := Lib.hid (bch' HB.out hb); clear hb) | (with_reducible refine ((HH.out _).mono ?_); rintro e w' ⟨rfl, hb⟩; replace HB := Lib.hid (bch' HB.out hb); clear hb) | (with_reducible refine ((HO.out _).mono ?_); rintro e w' ⟨rfl, hb⟩; replace HB := Lib.hid (bch' HB.out hb); clear hb) | (with_reducible refine ((HM.out _).mono ?_); rintro e w' ⟨rfl, hb⟩; replace HB := Lib.hid (bch' HB.out hb); clear hb))
    go_ret
    exact ⟨rfl, HB.out⟩

theorem r2_long (p q : Int) (w : World) (hp : dl p ≤ 20000) (hq : dl q ≤ 20000) :
    Calls Tryz.prog 117 #[.string ⟨(itoa p).toArray⟩, .string ⟨(itoa q).toArray⟩] w fun e w' => e = .returned (.bool (longP p q)) ∧ Below w.heap.size w w' := by
  have hr := fun W => r1_product p q W hp hq
  have hd := fun W => r1_digits_z (p * q) W
  unfold longP
  generalize dl (p * q) = d at *
  generalize itoa (p * q) = u at *
  clear hp hq
  have HR := Lib.hid hr; clear hr
  have HD := Lib.hid hd; clear hd
  have HB := Lib.hid (Below.refl w.heap.size w)
  go_enter Tryz.func117, Tryz.ntmps117
  go_wp2_with (first | (with_reducible refine ((HR.out _).mono ?_); rintro e w' ⟨rfl, hb⟩; replace HB := Lib.hid (bch' HB.out hb); clear hb) | (with_reducible refine ((HD.out _).mono ?_); rintro e w' ⟨rfl, rfl⟩))
  go_ret
  exact ⟨ret_bool (by rw [decide_eq_decide]; omega), HB.out⟩

set_option maxHeartbeats 1000000 in
theorem r2_crossed (x y : Rat) (w : World) (hx : Fits 9000 x) (hy : Fits 9000 y) :
    Calls Tryz.prog 114 #[.string ⟨(showR x).toArray⟩, .string ⟨(showR y).toArray⟩] w fun e w' => e = .returned (.int .i64 (qCross x y)) ∧ Below w.heap.size w w' := by
  have tx := fun W => r2_top_q x W (hx.mono (by omega))
  have bx := fun W => r2_bottom_q x W (hx.mono (by omega))
  have ty := fun W => r2_top_q y W (hy.mono (by omega))
  have b_y := fun W => r2_bottom_q y W (hy.mono (by omega))
  obtain ⟨hx1, hx2⟩ := hx
  obtain ⟨hy1, hy2⟩ := hy
  have p1 := fun W => r2_long x.num y.den W (by omega) (by omega)
  have p2 := fun W => r2_long y.num x.den W (by omega) (by omega)
  unfold qCross
  clear hx1 hx2 hy1 hy2
  have TX := Lib.hid tx; clear tx
  have BX := Lib.hid bx; clear bx
  have TY := Lib.hid ty; clear ty
  have B_Y := Lib.hid b_y; clear b_y
  have HB := Lib.hid (Below.refl w.heap.size w)
  cases h1 : longP x.num y.den
  · rw [h1] at p1
    cases h2 : longP y.num x.den
    · rw [h2] at p2
      have P1 := Lib.hid p1; clear p1 h1
      have P2 := Lib.hid p2; clear p2 h2
      go_enter Tryz.func114, Tryz.ntmps114
      go_wp2_with (first | (with_reducible refine ((TX.out _).mono ?_); rintro e w' ⟨rfl, rfl⟩) | (with_reducible refine ((BX.out _).mono ?_); rintro e w' ⟨rfl, rfl⟩) | (with_reducible refine ((TY.out _).mono ?_); rintro e w' ⟨rfl, rfl⟩) | (with_reducible refine ((B_Y.out _).mono ?_); rintro e w' ⟨rfl, rfl⟩) | (with_reducible refine ((P1.out _).mono ?_); rintro e w' ⟨rfl, hb⟩; replace HB := Lib.hid (bch' HB.out hb); clear hb) | (with_reducible refine ((P2.out _).mono ?_); rintro e w' ⟨rfl, hb⟩; replace HB := Lib.hid (bch' HB.out hb); clear hb))
      go_ret
      exact ⟨rfl, HB.out⟩
    · rw [h2] at p2
      have P1 := Lib.hid p1; clear p1 h1
      have P2 := Lib.hid p2; clear p2 h2
      go_enter Tryz.func114, Tryz.ntmps114
      go_wp2_with (first | (with_reducible refine ((TX.out _).mono ?_); rintro e w' ⟨rfl, rfl⟩) | (with_reducible refine ((BX.out _).mono ?_); rintro e w' ⟨rfl, rfl⟩) | (with_reducible refine ((TY.out _).mono ?_); rintro e w' ⟨rfl, rfl⟩) | (with_reducible refine ((B_Y.out _).mono ?_); rintro e w' ⟨rfl, rfl⟩) | (with_reducible refine ((P1.out _).mono ?_); rintro e w' ⟨rfl, hb⟩; replace HB := Lib.hid (bch' HB.out hb); clear hb) | (with_reducible refine ((P2.out _).mono ?_); rintro e w' ⟨rfl, hb⟩; replace HB := Lib.hid (bch' HB.out hb); clear hb))
      go_ret
      exact ⟨rfl, HB.out⟩
  · rw [h1] at p1
    clear p2
    have P1 := Lib.hid p1; clear p1 h1
    go_enter Tryz.func114, Tryz.ntmps114
    go_wp2_with (first | (with_reducible refine ((TX.out _).mono ?_); rintro e w' ⟨rfl, rfl⟩) | (with_reducible refine ((BX.out _).mono ?_); rintro e w' ⟨rfl, rfl⟩) | (with_reducible refine ((TY.out _).mono ?_); rintro e w' ⟨rfl, rfl⟩) | (with_reducible refine ((B_Y.out _).mono ?_); rintro e w' ⟨rfl, rfl⟩) | (with_reducible refine ((P1.out _).mono ?_); rintro e w' ⟨rfl, hb⟩; replace HB := Lib.hid (bch' HB.out hb); clear hb))
    go_ret
    exact ⟨rfl, HB.out⟩

set_option maxHeartbeats 2000000 in
theorem r2_summed (x y : Rat) (w : World) (hx : Fits 9000 x) (hy : Fits 9000 y) :
    Calls Tryz.prog 116 #[.string ⟨(showR x).toArray⟩, .string ⟨(showR y).toArray⟩] w fun e w' => e = .returned (.int .i64 (qSum x y)) ∧ Below w.heap.size w w' := by
  have hc := fun W => r2_crossed x y W hx hy
  have tx := fun W => r2_top_q x W (hx.mono (by omega))
  have bx := fun W => r2_bottom_q x W (hx.mono (by omega))
  have ty := fun W => r2_top_q y W (hy.mono (by omega))
  have b_y := fun W => r2_bottom_q y W (hy.mono (by omega))
  obtain ⟨hx1, hx2⟩ := hx
  obtain ⟨hy1, hy2⟩ := hy
  have d1 := dl_mul x.num y.den
  have d2 := dl_mul y.num x.den
  have p1 := fun W => r1_product x.num y.den W (by omega) (by omega)
  have p2 := fun W => r1_product y.num x.den W (by omega) (by omega)
  have s := fun W => r1_sum (x.num * y.den) (y.num * x.den) W (by omega) (by omega)
  have d := fun W => r1_digits_z (x.num * y.den + y.num * x.den) W
  have l := fun W => r2_long x.den y.den W (by omega) (by omega)
  have hv : qSum x y = if qCross x y = 0 then (if 4096 < dl (x.num * y.den + y.num * x.den) ∨ longP x.den y.den = true then 23 else 0) else 23 := by
    unfold qSum qCross
    rw [long_dl]
    cases longP x.num y.den <;> cases longP y.num x.den <;> simp
  rw [hv]
  have hcc := qCross_cases x y
  generalize qCross x y = c at *
  clear hv hx1 hx2 hy1 hy2 d1 d2
  generalize x.num * (y.den : Int) = u at *
  generalize y.num * (x.den : Int) = v at *
  generalize u + v = z at *
  generalize dl z = dz at *
  have TX := Lib.hid tx; clear tx
  have BX := Lib.hid bx; clear bx
  have TY := Lib.hid ty; clear ty
  have B_Y := Lib.hid b_y; clear b_y
  have P1 := Lib.hid p1; clear p1
  have P2 := Lib.hid p2; clear p2
  have S := Lib.hid s; clear s
  have D := Lib.hid d; clear d
  have HB := Lib.hid (Below.refl w.heap.size w)
  rcases hcc with rfl | rfl
  · rw [if_pos rfl]
    have HC := Lib.hid hc; clear hc
    by_cases h4 : 4096 < dz
    · rw [if_pos (.inl h4)]
      clear l
      go_enter Tryz.func116, Tryz.ntmps116
      go_wp2_with (first | (with_reducible refine ((TX.out _).mono ?_); rintro e w' ⟨rfl, rfl⟩) | (with_reducible refine ((BX.out _).mono ?_); rintro e w' ⟨rfl, rfl⟩) | (with_reducible refine ((TY.out _).mono ?_); rintro e w' ⟨rfl, rfl⟩) | (with_reducible refine ((B_Y.out _).mono ?_); rintro e w' ⟨rfl, rfl⟩) | (with_reducible refine ((P1.out _).mono ?_); rintro e w' ⟨rfl, hb⟩; replace HB := Lib.hid (bch' HB.out hb); clear hb) | (with_reducible refine ((P2.out _).mono ?_); rintro e w' ⟨rfl, hb⟩; replace HB := Lib.hid (bch' HB.out hb); clear hb) | (with_reducible refine ((S.out _).mono ?_); rintro e w' ⟨rfl, hb⟩; replace HB := Lib.hid (bch' HB.out hb); clear hb) | (with_reducible refine ((HC.out _).mono ?_); rintro e w' ⟨rfl, hb⟩; replace HB := Lib.hid (bch' HB.out hb); clear hb) | (with_reducible refine ((D.out _).mono ?_); rintro e w' ⟨rfl, rfl⟩))
      go_ret
      exact ⟨rfl, HB.out⟩
    · cases h5 : longP x.den y.den
      · rw [if_neg (by simp [h4])]
        rw [h5] at l
        have L := Lib.hid l; clear l h5
        go_enter Tryz.func116, Tryz.ntmps116
        go_wp2_with (first | (with_reducible refine ((TX.out _).mono ?_); rintro e w' ⟨rfl, rfl⟩) | (with_reducible refine ((BX.out _).mono ?_); rintro e w' ⟨rfl, rfl⟩) | (with_reducible refine ((TY.out _).mono ?_); rintro e w' ⟨rfl, rfl⟩) | (with_reducible refine ((B_Y.out _).mono ?_); rintro e w' ⟨rfl, rfl⟩) | (with_reducible refine ((P1.out _).mono ?_); rintro e w' ⟨rfl, hb⟩; replace HB := Lib.hid (bch' HB.out hb); clear hb) | (with_reducible refine ((P2.out _).mono ?_); rintro e w' ⟨rfl, hb⟩; replace HB := Lib.hid (bch' HB.out hb); clear hb) | (with_reducible refine ((S.out _).mono ?_); rintro e w' ⟨rfl, hb⟩; replace HB := Lib.hid (bch' HB.out hb); clear hb) | (with_reducible refine ((HC.out _).mono ?_); rintro e w' ⟨rfl, hb⟩; replace HB := Lib.hid (bch' HB.out hb); clear hb) | (with_reducible refine ((D.out _).mono ?_); rintro e w' ⟨rfl, rfl⟩) | (with_reducible refine ((L.out _).mono ?_); rintro e w' ⟨rfl, hb⟩; replace HB := Lib.hid (bch' HB.out hb); clear hb))
        go_ret
        exact ⟨rfl, HB.out⟩
      · rw [if_pos (.inr rfl)]
        rw [h5] at l
        have L := Lib.hid l; clear l h5
        go_enter Tryz.func116, Tryz.ntmps116
        go_wp2_with (first | (with_reducible refine ((TX.out _).mono ?_); rintro e w' ⟨rfl, rfl⟩) | (with_reducible refine ((BX.out _).mono ?_); rintro e w' ⟨rfl, rfl⟩) | (with_reducible refine ((TY.out _).mono ?_); rintro e w' ⟨rfl, rfl⟩) | (with_reducible refine ((B_Y.out _).mono ?_); rintro e w' ⟨rfl, rfl⟩) | (with_reducible refine ((P1.out _).mono ?_); rintro e w' ⟨rfl, hb⟩; replace HB := Lib.hid (bch' HB.out hb); clear hb) | (with_reducible refine ((P2.out _).mono ?_); rintro e w' ⟨rfl, hb⟩; replace HB := Lib.hid (bch' HB.out hb); clear hb) | (with_reducible refine ((S.out _).mono ?_); rintro e w' ⟨rfl, hb⟩; replace HB := Lib.hid (bch' HB.out hb); clear hb) | (with_reducible refine ((HC.out _).mono ?_); rintro e w' ⟨rfl, hb⟩; replace HB := Lib.hid (bch' HB.out hb); clear hb) | (with_reducible refine ((D.out _).mono ?_); rintro e w' ⟨rfl, rfl⟩) | (with_reducible refine ((L.out _).mono ?_); rintro e w' ⟨rfl, hb⟩; replace HB := Lib.hid (bch' HB.out hb); clear hb))
        go_ret
        exact ⟨rfl, HB.out⟩
  · rw [if_neg (by decide)]
    have HC := Lib.hid hc; clear hc l
    go_enter Tryz.func116, Tryz.ntmps116
    go_wp2_with (first | (with_reducible refine ((TX.out _).mono ?_); rintro e w' ⟨rfl, rfl⟩) | (with_reducible refine ((BX.out _).mono ?_); rintro e w' ⟨rfl, rfl⟩) | (with_reducible refine ((TY.out _).mono ?_); rintro e w' ⟨rfl, rfl⟩) | (with_reducible refine ((B_Y.out _).mono ?_); rintro e w' ⟨rfl, rfl⟩) | (with_reducible refine ((P1.out _).mono ?_); rintro e w' ⟨rfl, hb⟩; replace HB := Lib.hid (bch' HB.out hb); clear hb) | (with_reducible refine ((P2.out _).mono ?_); rintro e w' ⟨rfl, hb⟩; replace HB := Lib.hid (bch' HB.out hb); clear hb) | (with_reducible refine ((S.out _).mono ?_); rintro e w' ⟨rfl, hb⟩; replace HB := Lib.hid (bch' HB.out hb); clear hb) | (with_reducible refine ((HC.out _).mono ?_); rintro e w' ⟨rfl, hb⟩; replace HB := Lib.hid (bch' HB.out hb); clear hb) | (with_reducible refine ((D.out _).mono ?_); rintro e w' ⟨rfl, rfl⟩))
    go_ret
    exact ⟨rfl, HB.out⟩

set_option maxHeartbeats 1000000 in
theorem r2_compare (a b : Txt) (w : World) (ha : a.length ≤ 100000) (hb : b.length ≤ 100000) :
    Calls Tryz.prog 49 #[.string ⟨(a).toArray⟩, .string ⟨(b).toArray⟩] w fun e w' => e = .returned (.tuple #[.int .i64 ((cTwo a b).1), .int .i64 ((cTwo a b).2)]) ∧ Below w.heap.size w w' := by
  have hc := fun W => r2_checks a b W ha hb
  by_cases hz : checkTwo a b = 0
  · rw [hz] at hc
    obtain ⟨x, y, rfl, rfl, fx, fy⟩ := checkTwo_ok hz
    rw [cTwo_ok fx fy, qCmp_cross]
    have hx := fun W => r2_crossed x y W (fit_of_fits fx _ (by omega)) (fit_of_fits fy _ (by omega))
    have ho := fun W => r2_order x y W (fit_of_fits fx _ (by omega)) (fit_of_fits fy _ (by omega))
    have hcc := qCross_cases x y
    generalize qCross x y = c at *
    generalize sgn x y = s at *
    generalize showR x = a at *
    generalize showR y = b at *
    clear hz fx fy ha hb
    have HC := Lib.hid hc; clear hc
    have HO := Lib.hid ho; clear ho
    have HB := Lib.hid (Below.refl w.heap.size w)
    rcases hcc with rfl | rfl
    · rw [if_pos rfl]
      have HX := Lib.hid hx; clear hx
      go_enter Tryz.func49, Tryz.ntmps49
      go_wp2_with (first | (with_reducible refine ((HC.out _).mono ?_); rintro e w' ⟨rfl, hb⟩; replace HB := Lib.hid (bch' HB.out hb); clear hb) | (with_reducible refine ((HX.out _).mono ?_); rintro e w' ⟨rfl, hb⟩; replace HB := Lib.hid (bch' HB.out hb); clear hb) | (with_reducible refine ((HO.out _).mono ?_); rintro e w' ⟨rfl, hb⟩; replace HB := Lib.hid (bch' HB.out hb); clear hb))
      go_ret2
      exact ⟨rfl, HB.out⟩
    · rw [if_neg (by decide)]
      have HX := Lib.hid hx; clear hx
      go_enter Tryz.func49, Tryz.ntmps49
      go_wp2_with (first | (with_reducible refine ((HC.out _).mono ?_); rintro e w' ⟨rfl, hb⟩; replace HB := Lib.hid (bch' HB.out hb); clear hb) | (with_reducible refine ((HX.out _).mono ?_); rintro e w' ⟨rfl, hb⟩; replace HB := Lib.hid (bch' HB.out hb); clear hb) | (with_reducible refine ((HO.out _).mono ?_); rintro e w' ⟨rfl, hb⟩; replace HB := Lib.hid (bch' HB.out hb); clear hb))
      go_ret2
      exact ⟨rfl, HB.out⟩
  · rw [show cTwo a b = (0, checkTwo a b) by unfold cTwo; rw [if_pos hz]]
    have hne : ((checkTwo a b : Int) != 0) = true := by simpa using hz
    generalize checkTwo a b = m at *
    clear hz ha hb
    have HC := Lib.hid hc; clear hc
    have HB := Lib.hid (Below.refl w.heap.size w)
    go_enter Tryz.func49, Tryz.ntmps49
    go_wp2_with (first | (with_reducible refine ((HC.out _).mono ?_); rintro e w' ⟨rfl, hb⟩; replace HB := Lib.hid (bch' HB.out hb); clear hb))
    go_ret2
    exact ⟨rfl, HB.out⟩

set_option maxHeartbeats 1000000 in
theorem r2_add (a b : Txt) (w : World) (ha : a.length ≤ 100000) (hb : b.length ≤ 100000) :
    Calls Tryz.prog 51 #[.string ⟨(a).toArray⟩, .string ⟨(b).toArray⟩] w fun e w' => e = .returned (.tuple #[.string ⟨((rTwo a b qAdd).1).toArray⟩, .int .i64 ((rTwo a b qAdd).2)]) ∧ Below w.heap.size w w' := by
  have hc := fun W => r2_checks a b W ha hb
  by_cases hz : checkTwo a b = 0
  · rw [hz] at hc
    obtain ⟨x, y, rfl, rfl, fx, fy⟩ := checkTwo_ok hz
    rw [rTwo_ok x y _ fx fy, qAdd_sum]
    have hx := fun W => r2_summed x y W (fit_of_fits fx _ (by omega)) (fit_of_fits fy _ (by omega))
    have ho := fun W => r2_plus x y W (fit_of_fits fx _ (by omega)) (fit_of_fits fy _ (by omega))
    have hcc := qSum_cases x y
    generalize qSum x y = c at *
    generalize showR (x + y) = s at *
    generalize showR x = a at *
    generalize showR y = b at *
    clear hz fx fy ha hb
    have HC := Lib.hid hc; clear hc
    have HO := Lib.hid ho; clear ho
    have HB := Lib.hid (Below.refl w.heap.size w)
    rcases hcc with rfl | rfl
    · rw [if_pos rfl]
      have HX := Lib.hid hx; clear hx
      go_enter Tryz.func51, Tryz.ntmps51
      go_wp2_with (first | (with_reducible refine ((HC.out _).mono ?_); rintro e w' ⟨rfl, hb⟩; replace HB := Lib.hid (bch' HB.out hb); clear hb) | (with_reducible refine ((HX.out _).mono ?_); rintro e w' ⟨rfl, hb⟩; replace HB := Lib.hid (bch' HB.out hb); clear hb) | (with_reducible refine ((HO.out _).mono ?_); rintro e w' ⟨rfl, hb⟩; replace HB := Lib.hid (bch' HB.out hb); clear hb))
      go_ret2
      exact ⟨rfl, HB.out⟩
    · rw [if_neg (by decide)]
      have HX := Lib.hid hx; clear hx
      go_enter Tryz.func51, Tryz.ntmps51
      go_wp2_with (first | (with_reducible refine ((HC.out _).mono ?_); rintro e w' ⟨rfl, hb⟩; replace HB := Lib.hid (bch' HB.out hb); clear hb) | (with_reducible refine ((HX.out _).mono ?_); rintro e w' ⟨rfl, hb⟩; replace HB := Lib.hid (bch' HB.out hb); clear hb) | (with_reducible refine ((HO.out _).mono ?_); rintro e w' ⟨rfl, hb⟩; replace HB := Lib.hid (bch' HB.out hb); clear hb))
      go_ret2
      exact ⟨rfl, HB.out⟩
  · rw [rTwo_err _ hz]
    have hne : ((checkTwo a b : Int) != 0) = true := by simpa using hz
    generalize checkTwo a b = m at *
    clear hz ha hb
    have HC := Lib.hid hc; clear hc
    have HB := Lib.hid (Below.refl w.heap.size w)
    go_enter Tryz.func51, Tryz.ntmps51
    go_wp2_with (first | (with_reducible refine ((HC.out _).mono ?_); rintro e w' ⟨rfl, hb⟩; replace HB := Lib.hid (bch' HB.out hb); clear hb))
    go_ret2
    exact ⟨rfl, HB.out⟩

set_option maxHeartbeats 1000000 in
theorem r2_sub (a b : Txt) (w : World) (ha : a.length ≤ 100000) (hb : b.length ≤ 100000) :
    Calls Tryz.prog 53 #[.string ⟨(a).toArray⟩, .string ⟨(b).toArray⟩] w fun e w' => e = .returned (.tuple #[.string ⟨((rTwo a b qSub).1).toArray⟩, .int .i64 ((rTwo a b qSub).2)]) ∧ Below w.heap.size w w' := by
  have hc := fun W => r2_checks a b W ha hb
  by_cases hz : checkTwo a b = 0
  · rw [hz] at hc
    obtain ⟨x, y, rfl, rfl, fx, fy⟩ := checkTwo_ok hz
    have ht := fun W => r2_turned y W (fit_of_fits fy _ (by omega))
    have ho := fun W => r2_add (showR x) (showR (-y)) W ha (len_ok ((fit_fits _).1 (fit_neg fy)) (by omega))
    rw [rTwo_ok x (-y) _ fx (fit_neg fy)] at ho
    rw [rTwo_ok x y _ fx fy, qSub_neg]
    generalize qAdd x (-y) = s at *
    generalize showR (-y) = n at *
    generalize showR x = a at *
    generalize showR y = b at *
    clear hz fx fy ha hb
    have HC := Lib.hid hc; clear hc
    have HO := Lib.hid ho; clear ho
    have HT := Lib.hid ht; clear ht
    have HB := Lib.hid (Below.refl w.heap.size w)
    go_enter Tryz.func53, Tryz.ntmps53
    go_wp2_with (first | (with_reducible refine ((HC.out _).mono ?_); rintro e w' ⟨rfl, hb⟩; replace HB := Lib.hid (bch' HB.out hb); clear hb) | (with_reducible refine ((HT.out _).mono ?_); rintro e w' ⟨rfl, rfl⟩) | (with_reducible refine ((HO.out _).mono ?_); rintro e w' ⟨rfl, hb⟩; replace HB := Lib.hid (bch' HB.out hb); clear hb))
    go_ret2
    exact ⟨rfl, HB.out⟩
  · rw [rTwo_err _ hz]
    have hne : ((checkTwo a b : Int) != 0) = true := by simpa using hz
    generalize checkTwo a b = m at *
    clear hz ha hb
    have HC := Lib.hid hc; clear hc
    have HB := Lib.hid (Below.refl w.heap.size w)
    go_enter Tryz.func53, Tryz.ntmps53
    go_wp2_with (first | (with_reducible refine ((HC.out _).mono ?_); rintro e w' ⟨rfl, hb⟩; replace HB := Lib.hid (bch' HB.out hb); clear hb))
    go_ret2
    exact ⟨rfl, HB.out⟩

set_option maxHeartbeats 2000000 in
theorem r2_mul (a b : Txt) (w : World) (ha : a.length ≤ 100000) (hb : b.length ≤ 100000) :
    Calls Tryz.prog 55 #[.string ⟨(a).toArray⟩, .string ⟨(b).toArray⟩] w fun e w' => e = .returned (.tuple #[.string ⟨((rTwo a b qMul).1).toArray⟩, .int .i64 ((rTwo a b qMul).2)]) ∧ Below w.heap.size w w' := by
  have hc := fun W => r2_checks a b W ha hb
  by_cases hz : checkTwo a b = 0
  · rw [hz] at hc
    obtain ⟨x, y, rfl, rfl, fx, fy⟩ := checkTwo_ok hz
    rw [rTwo_ok x y _ fx fy]
    have hx := fit_of_fits fx 9000 (by omega)
    have hy := fit_of_fits fy 9000 (by omega)
    skip
    have ho := fun W => r2_times x y W hx hy
    have tx := fun W => r2_top_q x W (hx.mono (by omega))
    have bx := fun W => r2_bottom_q x W (hx.mono (by omega))
    have ty := fun W => r2_top_q y W (hy.mono (by omega))
    have b_y := fun W => r2_bottom_q y W (hy.mono (by omega))
    obtain ⟨hx1, hx2⟩ := hx
    obtain ⟨hy1, hy2⟩ := hy
    have p1 := fun W => r2_long x.num y.num W (by omega) (by omega)
    have p2 := fun W => r2_long x.den y.den W (by omega) (by omega)
    skip
    have hv : qMul x y = if longP x.num y.num = true then ([], 23) else if longP x.den y.den = true then ([], 23) else (showR (x * y), 0) := by
      unfold qMul
      skip
      by_cases g1 : longP x.num y.num = true
      · rw [if_pos (by rw [← longP_long, g1]; rfl), if_pos g1]
      · by_cases g2 : longP x.den y.den = true
        · rw [if_pos (by rw [← longP_long, ← longP_long, g2]; simp), if_neg g1, if_pos g2]
        · rw [if_neg (by rw [← longP_long, ← longP_long]; simp [g1, g2]), if_neg g1, if_neg g2]
    rw [hv]
    clear hv
    skip
    generalize showR (x * y) = s at *
    clear hz fx fy ha hb hx1 hx2 hy1 hy2
    generalize showR x = a at *
    generalize showR y = b at *
    have HC := Lib.hid hc; clear hc
    have HO := Lib.hid ho; clear ho
    have TX := Lib.hid tx; clear tx
    have BX := Lib.hid bx; clear bx
    have TY := Lib.hid ty; clear ty
    have B_Y := Lib.hid b_y; clear b_y
    have HB := Lib.hid (Below.refl w.heap.size w)
    cases h1 : longP x.num y.num
    · rw [h1] at p1
      cases h2 : longP x.den y.den
      · rw [h2] at p2
        have PP1 := Lib.hid p1; clear p1 h1
        have PP2 := Lib.hid p2; clear p2 h2
        go_enter Tryz.func55, Tryz.ntmps55
        go_wp2_with (first | (with_reducible refine ((HC.out _).mono ?_); rintro e w' ⟨rfl, hb⟩; replace HB := Lib.hid (bch' HB.out hb); clear hb) | (with_reducible refine ((TX.out _).mono ?_); rintro e w' ⟨rfl, rfl⟩) | (with_reducible refine ((BX.out _).mono ?_); rintro e w' ⟨rfl, rfl⟩) | (with_reducible refine ((TY.out _).mono ?_); rintro e w' ⟨rfl, rfl⟩) | (with_reducible refine ((B_Y.out _).mono ?_); rintro e w' ⟨rfl, rfl⟩) | (with_reducible refine ((PP1.out _).mono ?_); rintro e w' ⟨rfl, hb⟩; replace HB := Lib.hid (bch' HB.out hb); clear hb) | (with_reducible refine ((PP2.out _).mono ?_); rintro e w' ⟨rfl, hb⟩; replace HB := Lib.hid (bch' HB.out hb); clear hb) | (with_reducible refine ((HO.out _).mono ?_); rintro e w' ⟨rfl, hb⟩; replace HB := Lib.hid (bch' HB.out hb); clear hb))
        go_ret2
        exact ⟨rfl, HB.out⟩
      · rw [h2] at p2
        have PP1 := Lib.hid p1; clear p1 h1
        have PP2 := Lib.hid p2; clear p2 h2
        go_enter Tryz.func55, Tryz.ntmps55
        go_wp2_with (first | (with_reducible refine ((HC.out _).mono ?_); rintro e w' ⟨rfl, hb⟩; replace HB := Lib.hid (bch' HB.out hb); clear hb) | (with_reducible refine ((TX.out _).mono ?_); rintro e w' ⟨rfl, rfl⟩) | (with_reducible refine ((BX.out _).mono ?_); rintro e w' ⟨rfl, rfl⟩) | (with_reducible refine ((TY.out _).mono ?_); rintro e w' ⟨rfl, rfl⟩) | (with_reducible refine ((B_Y.out _).mono ?_); rintro e w' ⟨rfl, rfl⟩) | (with_reducible refine ((PP1.out _).mono ?_); rintro e w' ⟨rfl, hb⟩; replace HB := Lib.hid (bch' HB.out hb); clear hb) | (with_reducible refine ((PP2.out _).mono ?_); rintro e w' ⟨rfl, hb⟩; replace HB := Lib.hid (bch' HB.out hb); clear hb) | (with_reducible refine ((HO.out _).mono ?_); rintro e w' ⟨rfl, hb⟩; replace HB := Lib.hid (bch' HB.out hb); clear hb))
        go_ret2
        exact ⟨rfl, HB.out⟩
    · rw [h1] at p1
      clear p2
      have PP1 := Lib.hid p1; clear p1 h1
      go_enter Tryz.func55, Tryz.ntmps55
      go_wp2_with (first | (with_reducible refine ((HC.out _).mono ?_); rintro e w' ⟨rfl, hb⟩; replace HB := Lib.hid (bch' HB.out hb); clear hb) | (with_reducible refine ((TX.out _).mono ?_); rintro e w' ⟨rfl, rfl⟩) | (with_reducible refine ((BX.out _).mono ?_); rintro e w' ⟨rfl, rfl⟩) | (with_reducible refine ((TY.out _).mono ?_); rintro e w' ⟨rfl, rfl⟩) | (with_reducible refine ((B_Y.out _).mono ?_); rintro e w' ⟨rfl, rfl⟩) | (with_reducible refine ((PP1.out _).mono ?_); rintro e w' ⟨rfl, hb⟩; replace HB := Lib.hid (bch' HB.out hb); clear hb))
      go_ret2
      exact ⟨rfl, HB.out⟩
  · rw [rTwo_err _ hz]
    have hne : ((checkTwo a b : Int) != 0) = true := by simpa using hz
    generalize checkTwo a b = m at *
    clear hz ha hb
    have HC := Lib.hid hc; clear hc
    have HB := Lib.hid (Below.refl w.heap.size w)
    go_enter Tryz.func55, Tryz.ntmps55
    go_wp2_with (first | (with_reducible refine ((HC.out _).mono ?_); rintro e w' ⟨rfl, hb⟩; replace HB := Lib.hid (bch' HB.out hb); clear hb))
    go_ret2
    exact ⟨rfl, HB.out⟩

set_option maxHeartbeats 2000000 in
theorem r2_div (a b : Txt) (w : World) (ha : a.length ≤ 100000) (hb : b.length ≤ 100000) :
    Calls Tryz.prog 57 #[.string ⟨(a).toArray⟩, .string ⟨(b).toArray⟩] w fun e w' => e = .returned (.tuple #[.string ⟨((rTwo a b qDiv).1).toArray⟩, .int .i64 ((rTwo a b qDiv).2)]) ∧ Below w.heap.size w w' := by
  have hc := fun W => r2_checks a b W ha hb
  by_cases hz : checkTwo a b = 0
  · rw [hz] at hc
    obtain ⟨x, y, rfl, rfl, fx, fy⟩ := checkTwo_ok hz
    rw [rTwo_ok x y _ fx fy]
    have hx := fit_of_fits fx 9000 (by omega)
    have hy := fit_of_fits fy 9000 (by omega)
    by_cases y0 : y = 0
    · subst y0
      rw [show qDiv x 0 = ([], 15) by unfold qDiv; rw [if_pos rfl]]
      rw [showR_zero] at hc ⊢
      generalize showR x = a at *
      clear hz fx fy ha hb hx hy
      have HC := Lib.hid hc; clear hc
      have HB := Lib.hid (Below.refl w.heap.size w)
      go_enter Tryz.func57, Tryz.ntmps57
      go_wp2_with (first | (with_reducible refine ((HC.out _).mono ?_); rintro e w' ⟨rfl, hb⟩; replace HB := Lib.hid (bch' HB.out hb); clear hb))
      go_ret2
      exact ⟨rfl, HB.out⟩
    have hne : (showR y == [48]) = false := by rw [beq_eq_false_iff_ne]; exact mt (showR_eq_zero y).1 y0
    have ho := fun W => r2_by x y W hx hy y0
    have tx := fun W => r2_top_q x W (hx.mono (by omega))
    have bx := fun W => r2_bottom_q x W (hx.mono (by omega))
    have ty := fun W => r2_top_q y W (hy.mono (by omega))
    have b_y := fun W => r2_bottom_q y W (hy.mono (by omega))
    obtain ⟨hx1, hx2⟩ := hx
    obtain ⟨hy1, hy2⟩ := hy
    have p1 := fun W => r2_long x.num y.den W (by omega) (by omega)
    have p2 := fun W => r2_long x.den y.num W (by omega) (by omega)
    skip
    have hv : qDiv x y = if longP x.num y.den = true then ([], 23) else if longP x.den y.num = true then ([], 23) else (showR (x / y), 0) := by
      unfold qDiv
      rw [if_neg y0]
      by_cases g1 : longP x.num y.den = true
      · rw [if_pos (by rw [← longP_long, g1]; rfl), if_pos g1]
      · by_cases g2 : longP x.den y.num = true
        · rw [if_pos (by rw [← longP_long, ← longP_long, g2]; simp), if_neg g1, if_pos g2]
        · rw [if_neg (by rw [← longP_long, ← longP_long]; simp [g1, g2]), if_neg g1, if_neg g2]
    rw [hv]
    clear hv
    clear y0
    generalize showR (x / y) = s at *
    clear hz fx fy ha hb hx1 hx2 hy1 hy2
    generalize showR x = a at *
    generalize showR y = b at *
    have HC := Lib.hid hc; clear hc
    have HO := Lib.hid ho; clear ho
    have TX := Lib.hid tx; clear tx
    have BX := Lib.hid bx; clear bx
    have TY := Lib.hid ty; clear ty
    have B_Y := Lib.hid b_y; clear b_y
    have HB := Lib.hid (Below.refl w.heap.size w)
    cases h1 : longP x.num y.den
    · rw [h1] at p1
      cases h2 : longP x.den y.num
      · rw [h2] at p2
        have PP1 := Lib.hid p1; clear p1 h1
        have PP2 := Lib.hid p2; clear p2 h2
        go_enter Tryz.func57, Tryz.ntmps57
        go_wp2_with (first | (with_reducible refine ((HC.out _).mono ?_); rintro e w' ⟨rfl, hb⟩; replace HB := Lib.hid (bch' HB.out hb); clear hb) | (with_reducible refine ((TX.out _).mono ?_); rintro e w' ⟨rfl, rfl⟩) | (with_reducible refine ((BX.out _).mono ?_); rintro e w' ⟨rfl, rfl⟩) | (with_reducible refine ((TY.out _).mono ?_); rintro e w' ⟨rfl, rfl⟩) | (with_reducible refine ((B_Y.out _).mono ?_); rintro e w' ⟨rfl, rfl⟩) | (with_reducible refine ((PP1.out _).mono ?_); rintro e w' ⟨rfl, hb⟩; replace HB := Lib.hid (bch' HB.out hb); clear hb) | (with_reducible refine ((PP2.out _).mono ?_); rintro e w' ⟨rfl, hb⟩; replace HB := Lib.hid (bch' HB.out hb); clear hb) | (with_reducible refine ((HO.out _).mono ?_); rintro e w' ⟨rfl, hb⟩; replace HB := Lib.hid (bch' HB.out hb); clear hb))
        go_ret2
        exact ⟨rfl, HB.out⟩
      · rw [h2] at p2
        have PP1 := Lib.hid p1; clear p1 h1
        have PP2 := Lib.hid p2; clear p2 h2
        go_enter Tryz.func57, Tryz.ntmps57
        go_wp2_with (first | (with_reducible refine ((HC.out _).mono ?_); rintro e w' ⟨rfl, hb⟩; replace HB := Lib.hid (bch' HB.out hb); clear hb) | (with_reducible refine ((TX.out _).mono ?_); rintro e w' ⟨rfl, rfl⟩) | (with_reducible refine ((BX.out _).mono ?_); rintro e w' ⟨rfl, rfl⟩) | (with_reducible refine ((TY.out _).mono ?_); rintro e w' ⟨rfl, rfl⟩) | (with_reducible refine ((B_Y.out _).mono ?_); rintro e w' ⟨rfl, rfl⟩) | (with_reducible refine ((PP1.out _).mono ?_); rintro e w' ⟨rfl, hb⟩; replace HB := Lib.hid (bch' HB.out hb); clear hb) | (with_reducible refine ((PP2.out _).mono ?_); rintro e w' ⟨rfl, hb⟩; replace HB := Lib.hid (bch' HB.out hb); clear hb) | (with_reducible refine ((HO.out _).mono ?_); rintro e w' ⟨rfl, hb⟩; replace HB := Lib.hid (bch' HB.out hb); clear hb))
        go_ret2
        exact ⟨rfl, HB.out⟩
    · rw [h1] at p1
      clear p2
      have PP1 := Lib.hid p1; clear p1 h1
      go_enter Tryz.func57, Tryz.ntmps57
      go_wp2_with (first | (with_reducible refine ((HC.out _).mono ?_); rintro e w' ⟨rfl, hb⟩; replace HB := Lib.hid (bch' HB.out hb); clear hb) | (with_reducible refine ((TX.out _).mono ?_); rintro e w' ⟨rfl, rfl⟩) | (with_reducible refine ((BX.out _).mono ?_); rintro e w' ⟨rfl, rfl⟩) | (with_reducible refine ((TY.out _).mono ?_); rintro e w' ⟨rfl, rfl⟩) | (with_reducible refine ((B_Y.out _).mono ?_); rintro e w' ⟨rfl, rfl⟩) | (with_reducible refine ((PP1.out _).mono ?_); rintro e w' ⟨rfl, hb⟩; replace HB := Lib.hid (bch' HB.out hb); clear hb))
      go_ret2
      exact ⟨rfl, HB.out⟩
  · rw [rTwo_err _ hz]
    have hne : ((checkTwo a b : Int) != 0) = true := by simpa using hz
    generalize checkTwo a b = m at *
    clear hz ha hb
    have HC := Lib.hid hc; clear hc
    have HB := Lib.hid (Below.refl w.heap.size w)
    go_enter Tryz.func57, Tryz.ntmps57
    go_wp2_with (first | (with_reducible refine ((HC.out _).mono ?_); rintro e w' ⟨rfl, hb⟩; replace HB := Lib.hid (bch' HB.out hb); clear hb))
    go_ret2
    exact ⟨rfl, HB.out⟩

set_option maxHeartbeats 1000000 in
theorem r2_min (a b : Txt) (w : World) (ha : a.length ≤ 100000) (hb : b.length ≤ 100000) :
    Calls Tryz.prog 59 #[.string ⟨(a).toArray⟩, .string ⟨(b).toArray⟩] w fun e w' => e = .returned (.tuple #[.string ⟨((minT a b).1).toArray⟩, .int .i64 ((minT a b).2)]) ∧ Below w.heap.size w w' := by
  have hc := fun W => r2_compare a b W ha hb
  unfold minT
  by_cases hz : (cTwo a b).2 = 0
  · rw [if_neg (by simpa using hz)]
    obtain ⟨x, y, rfl, rfl, fx, fy, e1⟩ := cTwo_zero hz
    rw [hz] at hc
    have hl := fun W => r2_least x y W (fit_of_fits fx _ (by omega)) (fit_of_fits fy _ (by omega))
    have hs : (if 0 < (cTwo (showR x) (showR y)).1 then showR y else showR x) = showR (least x y) := by
      rw [e1]
      unfold least
      by_cases h : y < x
      · rw [if_pos ((sgn_gt x y).2 h), if_pos h]
      · rw [if_neg (mt (sgn_gt x y).1 h), if_neg h]
    rw [hs]
    generalize showR (least x y) = s at *
    generalize showR x = a at *
    generalize showR y = b at *
    generalize (cTwo a b).1 = c at *
    clear hz fx fy ha hb hs e1
    have HC := Lib.hid hc; clear hc
    have HL := Lib.hid hl; clear hl
    have HB := Lib.hid (Below.refl w.heap.size w)
    go_enter Tryz.func59, Tryz.ntmps59
    go_wp2_with (first | (with_reducible refine ((HC.out _).mono ?_); rintro e w' ⟨rfl, hb⟩; replace HB := Lib.hid (bch' HB.out hb); clear hb) | (with_reducible refine ((HL.out _).mono ?_); rintro e w' ⟨rfl, hb⟩; replace HB := Lib.hid (bch' HB.out hb); clear hb))
    go_ret2
    exact ⟨rfl, HB.out⟩
  · rw [if_pos hz]
    have hne : (((cTwo a b).2 : Int) != 0) = true := by simpa using hz
    generalize (cTwo a b).2 = m at *
    generalize (cTwo a b).1 = c at *
    clear hz ha hb
    have HC := Lib.hid hc; clear hc
    have HB := Lib.hid (Below.refl w.heap.size w)
    go_enter Tryz.func59, Tryz.ntmps59
    go_wp2_with (first | (with_reducible refine ((HC.out _).mono ?_); rintro e w' ⟨rfl, hb⟩; replace HB := Lib.hid (bch' HB.out hb); clear hb))
    go_ret2
    exact ⟨rfl, HB.out⟩

set_option maxHeartbeats 1000000 in
theorem r2_max (a b : Txt) (w : World) (ha : a.length ≤ 100000) (hb : b.length ≤ 100000) :
    Calls Tryz.prog 61 #[.string ⟨(a).toArray⟩, .string ⟨(b).toArray⟩] w fun e w' => e = .returned (.tuple #[.string ⟨((maxT a b).1).toArray⟩, .int .i64 ((maxT a b).2)]) ∧ Below w.heap.size w w' := by
  have hc := fun W => r2_compare a b W ha hb
  unfold maxT
  by_cases hz : (cTwo a b).2 = 0
  · rw [if_neg (by simpa using hz)]
    obtain ⟨x, y, rfl, rfl, fx, fy, e1⟩ := cTwo_zero hz
    rw [hz] at hc
    have hl := fun W => r2_most x y W (fit_of_fits fx _ (by omega)) (fit_of_fits fy _ (by omega))
    have hs : (if (cTwo (showR x) (showR y)).1 < 0 then showR y else showR x) = showR (most x y) := by
      rw [e1]
      unfold most
      by_cases h : x < y
      · rw [if_pos ((sgn_lt x y).2 h), if_pos h]
      · rw [if_neg (mt (sgn_lt x y).1 h), if_neg h]
    rw [hs]
    generalize showR (most x y) = s at *
    generalize showR x = a at *
    generalize showR y = b at *
    generalize (cTwo a b).1 = c at *
    clear hz fx fy ha hb hs e1
    have HC := Lib.hid hc; clear hc
    have HL := Lib.hid hl; clear hl
    have HB := Lib.hid (Below.refl w.heap.size w)
    go_enter Tryz.func61, Tryz.ntmps61
    go_wp2_with (first | (with_reducible refine ((HC.out _).mono ?_); rintro e w' ⟨rfl, hb⟩; replace HB := Lib.hid (bch' HB.out hb); clear hb) | (with_reducible refine ((HL.out _).mono ?_); rintro e w' ⟨rfl, hb⟩; replace HB := Lib.hid (bch' HB.out hb); clear hb))
    go_ret2
    exact ⟨rfl, HB.out⟩
  · rw [if_pos hz]
    have hne : (((cTwo a b).2 : Int) != 0) = true := by simpa using hz
    generalize (cTwo a b).2 = m at *
    generalize (cTwo a b).1 = c at *
    clear hz ha hb
    have HC := Lib.hid hc; clear hc
    have HB := Lib.hid (Below.refl w.heap.size w)
    go_enter Tryz.func61, Tryz.ntmps61
    go_wp2_with (first | (with_reducible refine ((HC.out _).mono ?_); rintro e w' ⟨rfl, hb⟩; replace HB := Lib.hid (bch' HB.out hb); clear hb))
    go_ret2
    exact ⟨rfl, HB.out⟩
end Go.Proofs.YtnjaikomoljmjaaGreatDoor
