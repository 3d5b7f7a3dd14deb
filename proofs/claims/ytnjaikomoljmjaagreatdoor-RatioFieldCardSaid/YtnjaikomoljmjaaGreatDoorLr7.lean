/-
  The law RatioField: the walk.
-/
import Derived.Test.YtnjaikomoljmjaaGreatDoorLrs
set_option linter.unusedVariables false
set_option linter.unusedSimpArgs false
namespace Lum
open Go Go.RowKit Go.Shelf
open Go.Lib (decDigits itoa)
theorem sgn_sub (x y : Rat) : sgn (x - y) 0 = sgn x y := by
  unfold sgn
  by_cases h : x < y
  · rw [if_pos h, if_pos (by grind)]
  · rw [if_neg h, if_neg (by grind)]
    by_cases h2 : y < x
    · rw [if_pos h2, if_pos (by grind)]
    · rw [if_neg h2, if_neg (by grind)]
end Lum
namespace Go.Proofs.YtnjaikomoljmjaaGreatDoor
open Go.RowKit Go.Shelf Lum
open Go.Lib (decDigits itoa)
attribute [local go_sem] bs_get bs_extract_end bs_extract_from bs_extract bs_append

set_option maxRecDepth 100000 in
set_option maxHeartbeats 8000000 in
theorem law_field (a b c : Txt) (w : World) (ha : a.length ≤ 9223372036854775807) (hb : b.length ≤ 9223372036854775807) (hc : c.length ≤ 9223372036854775807) (env : Env w) :
    Calls Tryz.prog 13 #[.string ⟨(a).toArray⟩, .string ⟨(b).toArray⟩, .string ⟨(c).toArray⟩] w fun e w' => e = .returned (.bool (true)) ∧ Below w.heap.size w w' := by
  have haw := fun W (e : Env W) => law02_awake W e
  have HAW := Lib.hid haw; clear haw
  have ENV := Lib.hid env; clear env
  have HB := Lib.hid ((Below.refl w.heap.size w).alloc (Nat.le_refl _) (.cells #[.string ⟨(a).toArray⟩, .string ⟨(b).toArray⟩, .string ⟨(c).toArray⟩] 42))
  have c0 : (w.alloc (.cells #[.string ⟨(a).toArray⟩, .string ⟨(b).toArray⟩, .string ⟨(c).toArray⟩] 42)).cell? ⟨w.heap.size, 0, none⟩ = some (.string ⟨(a).toArray⟩) := by rw [World.cell?_alloc_new]; rfl
  have c1 : (w.alloc (.cells #[.string ⟨(a).toArray⟩, .string ⟨(b).toArray⟩, .string ⟨(c).toArray⟩] 42)).cell? ⟨w.heap.size, 1, none⟩ = some (.string ⟨(b).toArray⟩) := by rw [World.cell?_alloc_new]; rfl
  have c2 : (w.alloc (.cells #[.string ⟨(a).toArray⟩, .string ⟨(b).toArray⟩, .string ⟨(c).toArray⟩] 42)).cell? ⟨w.heap.size, 2, none⟩ = some (.string ⟨(c).toArray⟩) := by rw [World.cell?_alloc_new]; rfl
  have hsh := law02_short3 a b c w.heap.size (w.alloc (.cells #[.string ⟨(a).toArray⟩, .string ⟨(b).toArray⟩, .string ⟨(c).toArray⟩] 42)) c0 c1 c2
  clear c0 c1 c2
  cases hk : (sB a && sB b && sB c)
  · rw [hk] at hsh
    clear hk
    have HSH := Lib.hid hsh; clear hsh
    go_enter Tryz.func13, Tryz.ntmps13
    go_wp2_with fail
    generalize w.alloc (.cells #[.string ⟨(a).toArray⟩, .string ⟨(b).toArray⟩, .string ⟨(c).toArray⟩] 42) = W0 at *
    refine ((HSH.out).mono ?_); rintro e w1 ⟨rfl, hb⟩; replace HB := Lib.hid (bch' HB.out hb); clear hb
    go_wp2_with (first | (with_reducible refine ((HAW.out _ (ENV.out.below HB.out)).mono ?_); rintro e w' ⟨rfl, hb⟩; replace HB := Lib.hid (bch' HB.out hb); clear hb))
    go_ret
    exact ⟨rfl, HB.out⟩
  rw [hk] at hsh
  rw [Bool.and_eq_true, Bool.and_eq_true] at hk
  obtain ⟨⟨ka, kb⟩, kc⟩ := hk
  obtain ⟨x, rfl, fx⟩ := sB_val ka
  obtain ⟨y, rfl, fy⟩ := sB_val kb
  obtain ⟨z, rfl, fz⟩ := sB_val kc
  clear ka ha kb hb kc hc
  have HSH := Lib.hid hsh; clear hsh
  have fab := fits_add fx fy
  have fac := fits_mul fx fz
  have fbc := fits_mul fy fz
  have fl := fits_mul fab (fz.mono (show 121 ≤ 2 * 121 + 1 by omega))
  have h1 := fun W (e : Env W) => own_radd (showR (x)) (showR (y)) W e (len_ok fx (by omega)) (len_ok fy (by omega))
  rw [rTwo_add_small (fx.mono (by omega)) (fy.mono (by omega))] at h1
  dsimp only at h1
  have h2 := fun W (e : Env W) => own_rmul (showR (x + y)) (showR (z)) W e (len_ok fab (by omega)) (len_ok fz (by omega))
  rw [mul_small (fab.mono (by omega)) (fz.mono (by omega))] at h2
  dsimp only at h2
  have h3 := fun W (e : Env W) => own_rmul (showR (x)) (showR (z)) W e (len_ok fx (by omega)) (len_ok fz (by omega))
  rw [mul_small (fx.mono (by omega)) (fz.mono (by omega))] at h3
  dsimp only at h3
  have h4 := fun W (e : Env W) => own_rmul (showR (y)) (showR (z)) W e (len_ok fy (by omega)) (len_ok fz (by omega))
  rw [mul_small (fy.mono (by omega)) (fz.mono (by omega))] at h4
  dsimp only at h4
  have h5 := fun W (e : Env W) => own_radd (showR (x * z)) (showR (y * z)) W e (len_ok fac (by omega)) (len_ok fbc (by omega))
  rw [rTwo_add_small (fac.mono (by omega)) (fbc.mono (by omega))] at h5
  dsimp only at h5
  have h6 := fun W (e : Env W) => own_rsub (showR (x + y)) (showR (y)) W e (len_ok fab (by omega)) (len_ok fy (by omega))
  rw [sub_small (fab.mono (by omega)) (fy.mono (by omega))] at h6
  dsimp only at h6
  rw [Rat.add_mul] at h2
  rw [show x + y - y = x by grind] at h6
  have fd := fits_sub fx fy
  have fp := fits_mul fx fy
  have h7 := fun W (e : Env W) => own_rcompare (showR (x)) (showR (y)) W e (len_ok fx (by omega)) (len_ok fy (by omega))
  rw [cmp_small (fx.mono (by omega)) (fy.mono (by omega))] at h7
  dsimp only at h7
  have h8 := fun W (e : Env W) => own_rsub (showR (x)) (showR (y)) W e (len_ok fx (by omega)) (len_ok fy (by omega))
  rw [sub_small (fx.mono (by omega)) (fy.mono (by omega))] at h8
  dsimp only at h8
  have h9 := fun W (e : Env W) => own_rcompare (showR (x - y)) (showR (0)) W e (len_ok fd (by omega)) (len_ok (fits_zero 121 (by omega)) (by omega))
  rw [cmp_small (fd.mono (by omega)) ((fits_zero 121 (by omega)).mono (by omega))] at h9
  dsimp only at h9
  rw [sgn_sub, showR_zero] at h9
  by_cases hy0 : y = 0
  · have hq : (showR y == [48]) = true := by rw [beq_iff_eq]; exact (showR_eq_zero y).2 hy0
    clear fab fac fbc fl fd fp fx fy fz hy0
    generalize sgn x y = s at *
    have H1 := Lib.hid h1; clear h1
    have H2 := Lib.hid h2; clear h2
    have H3 := Lib.hid h3; clear h3
    have H4 := Lib.hid h4; clear h4
    have H5 := Lib.hid h5; clear h5
    have H6 := Lib.hid h6; clear h6
    have H7 := Lib.hid h7; clear h7
    have H8 := Lib.hid h8; clear h8
    have H9 := Lib.hid h9; clear h9
    go_enter Tryz.func13, Tryz.ntmps13
    go_wp2_with fail
    generalize w.alloc (.cells #[.string ⟨(showR x).toArray⟩, .string ⟨(showR y).toArray⟩, .string ⟨(showR z).toArray⟩] 42) = W0 at *
    refine ((HSH.out).mono ?_); rintro e w1 ⟨rfl, hb⟩; replace HB := Lib.hid (bch' HB.out hb); clear hb
    go_wp2_with (first | (with_reducible refine ((HAW.out _ (ENV.out.below HB.out)).mono ?_); rintro e w' ⟨rfl, hb⟩; replace HB := Lib.hid (bch' HB.out hb); clear hb) | (with_reducible refine ((H1.out _ (ENV.out.below HB.out)).mono ?_); rintro e w' ⟨rfl, hb⟩; replace HB := Lib.hid (bch' HB.out hb); clear hb) | (with_reducible refine ((H2.out _ (ENV.out.below HB.out)).mono ?_); rintro e w' ⟨rfl, hb⟩; replace HB := Lib.hid (bch' HB.out hb); clear hb) | (with_reducible refine ((H3.out _ (ENV.out.below HB.out)).mono ?_); rintro e w' ⟨rfl, hb⟩; replace HB := Lib.hid (bch' HB.out hb); clear hb) | (with_reducible refine ((H4.out _ (ENV.out.below HB.out)).mono ?_); rintro e w' ⟨rfl, hb⟩; replace HB := Lib.hid (bch' HB.out hb); clear hb) | (with_reducible refine ((H5.out _ (ENV.out.below HB.out)).mono ?_); rintro e w' ⟨rfl, hb⟩; replace HB := Lib.hid (bch' HB.out hb); clear hb) | (with_reducible refine ((H6.out _ (ENV.out.below HB.out)).mono ?_); rintro e w' ⟨rfl, hb⟩; replace HB := Lib.hid (bch' HB.out hb); clear hb) | (with_reducible refine ((H7.out _ (ENV.out.below HB.out)).mono ?_); rintro e w' ⟨rfl, hb⟩; replace HB := Lib.hid (bch' HB.out hb); clear hb) | (with_reducible refine ((H8.out _ (ENV.out.below HB.out)).mono ?_); rintro e w' ⟨rfl, hb⟩; replace HB := Lib.hid (bch' HB.out hb); clear hb) | (with_reducible refine ((H9.out _ (ENV.out.below HB.out)).mono ?_); rintro e w' ⟨rfl, hb⟩; replace HB := Lib.hid (bch' HB.out hb); clear hb))
    go_ret
    exact ⟨rfl, HB.out⟩
  have hne : (showR y == [48]) = false := by rw [beq_eq_false_iff_ne]; exact mt (showR_eq_zero y).1 hy0
  have p1 := fun W (e : Env W) => own_rmul (showR (x)) (showR (y)) W e (len_ok fx (by omega)) (len_ok fy (by omega))
  rw [mul_small (fx.mono (by omega)) (fy.mono (by omega))] at p1
  dsimp only at p1
  have p2 := fun W (e : Env W) => own_rdiv (showR (x * y)) (showR (y)) W e (len_ok fp (by omega)) (len_ok fy (by omega))
  rw [div_small (fp.mono (by omega)) (fy.mono (by omega)) hy0] at p2
  dsimp only at p2
  rw [Rat.mul_div_cancel hy0] at p2
  clear hy0 fab fac fbc fl fd fp fx fy fz
  generalize sgn x y = s at *
  have H1 := Lib.hid h1; clear h1
  have H2 := Lib.hid h2; clear h2
  have H3 := Lib.hid h3; clear h3
  have H4 := Lib.hid h4; clear h4
  have H5 := Lib.hid h5; clear h5
  have H6 := Lib.hid h6; clear h6
  have H7 := Lib.hid h7; clear h7
  have H8 := Lib.hid h8; clear h8
  have H9 := Lib.hid h9; clear h9
  have P1 := Lib.hid p1; clear p1
  have P2 := Lib.hid p2; clear p2
  go_enter Tryz.func13, Tryz.ntmps13
  go_wp2_with fail
  generalize w.alloc (.cells #[.string ⟨(showR x).toArray⟩, .string ⟨(showR y).toArray⟩, .string ⟨(showR z).toArray⟩] 42) = W0 at *
  refine ((HSH.out).mono ?_); rintro e w1 ⟨rfl, hb⟩; replace HB := Lib.hid (bch' HB.out hb); clear hb
  go_wp2_with (first | (with_reducible refine ((HAW.out _ (ENV.out.below HB.out)).mono ?_); rintro e w' ⟨rfl, hb⟩; replace HB := Lib.hid (bch' HB.out hb); clear hb) | (with_reducible refine ((H1.out _ (ENV.out.below HB.out)).mono ?_); rintro e w' ⟨rfl, hb⟩; replace HB := Lib.hid (bch' HB.out hb); clear hb) | (with_reducible refine ((H2.out _ (ENV.out.below HB.out)).mono ?_); rintro e w' ⟨rfl, hb⟩; replace HB := Lib.hid (bch' HB.out hb); clear hb) | (with_reducible refine ((H3.out _ (ENV.out.below HB.out)).mono ?_); rintro e w' ⟨rfl, hb⟩; replace HB := Lib.hid (bch' HB.out hb); clear hb) | (with_reducible refine ((H4.out _ (ENV.out.below HB.out)).mono ?_); rintro e w' ⟨rfl, hb⟩; replace HB := Lib.hid (bch' HB.out hb); clear hb) | (with_reducible refine ((H5.out _ (ENV.out.below HB.out)).mono ?_); rintro e w' ⟨rfl, hb⟩; replace HB := Lib.hid (bch' HB.out hb); clear hb) | (with_reducible refine ((H6.out _ (ENV.out.below HB.out)).mono ?_); rintro e w' ⟨rfl, hb⟩; replace HB := Lib.hid (bch' HB.out hb); clear hb) | (with_reducible refine ((H7.out _ (ENV.out.below HB.out)).mono ?_); rintro e w' ⟨rfl, hb⟩; replace HB := Lib.hid (bch' HB.out hb); clear hb) | (with_reducible refine ((H8.out _ (ENV.out.below HB.out)).mono ?_); rintro e w' ⟨rfl, hb⟩; replace HB := Lib.hid (bch' HB.out hb); clear hb) | (with_reducible refine ((H9.out _ (ENV.out.below HB.out)).mono ?_); rintro e w' ⟨rfl, hb⟩; replace HB := Lib.hid (bch' HB.out hb); clear hb) | (with_reducible refine ((P1.out _ (ENV.out.below HB.out)).mono ?_); rintro e w' ⟨rfl, hb⟩; replace HB := Lib.hid (bch' HB.out hb); clear hb) | (with_reducible refine ((P2.out _ (ENV.out.below HB.out)).mono ?_); rintro e w' ⟨rfl, hb⟩; replace HB := Lib.hid (bch' HB.out hb); clear hb))
  go_ret
  exact ⟨rfl, HB.out⟩
end Go.Proofs.YtnjaikomoljmjaaGreatDoor
