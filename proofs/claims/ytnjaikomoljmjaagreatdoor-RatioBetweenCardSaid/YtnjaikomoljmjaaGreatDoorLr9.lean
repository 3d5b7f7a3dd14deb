/-
  The law RatioBetween: the walk.
-/
import Derived.Test.YtnjaikomoljmjaaGreatDoorLrs
set_option linter.unusedVariables false
set_option linter.unusedSimpArgs false
namespace Lum
open Go Go.RowKit Go.Shelf
open Go.Lib (decDigits itoa)
theorem mix_small {x y v : Rat} (hx : Fits 121 x) (hy : Fits 121 y) (hv : Fits 121 v) : mixT (showR x) (showR y) (showR v) = (showR (x + (y - x) * v), 0) := by
  have f1 := fits_sub hy hx
  have f2 := fits_mul f1 (hv.mono (show 121 ≤ 2 * 121 + 1 by omega))
  have e1 : checkTwo (showR x) (showR y) = 0 := by unfold checkTwo; rw [check_small (hx.mono (by omega)), check_small (hy.mono (by omega))]; rfl
  have e2 := check_small (hv.mono (show 121 ≤ 1000 by omega))
  have e3 := sub_small (hy.mono (show 121 ≤ 1000 by omega)) (hx.mono (show 121 ≤ 1000 by omega))
  have e4 := mul_small (f1.mono (show 2 * 121 + 1 ≤ 1000 by omega)) (hv.mono (show 121 ≤ 1000 by omega))
  have e5 := rTwo_add_small (hx.mono (show 121 ≤ 1000 by omega)) (f2.mono (show 2 * (2 * 121 + 1) + 1 ≤ 1000 by omega))
  unfold mixT
  rw [e1, e2, e3]
  dsimp only
  rw [e4]
  dsimp only
  rw [e5]
  rfl
theorem fits_mix {x y v : Rat} (hx : Fits 121 x) (hy : Fits 121 y) (hv : Fits 121 v) : Fits 1000 (x + (y - x) * v) := by
  have f1 := fits_sub hy hx
  have f2 := fits_mul f1 (hv.mono (show 121 ≤ 2 * 121 + 1 by omega))
  exact (fits_add (hx.mono (show 121 ≤ 2 * (2 * 121 + 1) + 1 by omega)) f2).mono (by omega)
theorem part_range (w : Int) (h0 : 0 ≤ w) (h1 : w ≤ 255) : 0 ≤ Rat.divInt w 255 ∧ Rat.divInt w 255 ≤ 1 ∧ Rat.divInt (255 - w) 255 = 1 - Rat.divInt w 255 := by
  have k0 : (0 : Rat) ≤ (w : Rat) := by rw [show (0 : Rat) = ((0 : Int) : Rat) from rfl]; exact Rat.intCast_le_intCast.2 h0
  have k1 : (w : Rat) ≤ 255 := by rw [show (255 : Rat) = ((255 : Int) : Rat) from rfl]; exact Rat.intCast_le_intCast.2 h1
  rw [Rat.divInt_eq_div, Rat.divInt_eq_div, Rat.intCast_sub, show ((255 : Int) : Rat) = 255 from rfl]
  refine ⟨by grind, by grind, by grind⟩
theorem between_ge (x y v : Rat) (h0 : 0 ≤ v) (h1 : v ≤ 1) : least x y ≤ x + (y - x) * v ∧ x + (y - x) * v ≤ most x y := by
  unfold least most
  rcases (show x ≤ y ∨ y ≤ x from Rat.le_total) with h | h
  · have p1 := Rat.mul_nonneg (show 0 ≤ y - x by grind) h0
    have p2 := Rat.mul_nonneg (show 0 ≤ y - x by grind) (show 0 ≤ 1 - v by grind)
    have p3 : (y - x) * (1 - v) = (y - x) - (y - x) * v := by grind
    rw [p3] at p2
    generalize (y - x) * v = u at *
    constructor
    · split <;> grind
    · split <;> grind
  · have p1 := Rat.mul_nonneg (show 0 ≤ x - y by grind) h0
    have p2 := Rat.mul_nonneg (show 0 ≤ x - y by grind) (show 0 ≤ 1 - v by grind)
    have p3 : (x - y) * (1 - v) = (x - y) - (x - y) * v := by grind
    have p4 : (y - x) * v = -((x - y) * v) := by grind
    rw [p3] at p2
    rw [p4]
    generalize (x - y) * v = u at *
    constructor
    · split <;> grind
    · split <;> grind
theorem fits_least {x y : Rat} {k : Nat} (hx : Fits k x) (hy : Fits k y) : Fits k (least x y) := by unfold least; split <;> assumption
theorem fits_most {x y : Rat} {k : Nat} (hx : Fits k x) (hy : Fits k y) : Fits k (most x y) := by unfold most; split <;> assumption
theorem fits_one : Fits 121 (1 : Rat) := by unfold Fits; decide +kernel
theorem showR_one : showR 1 = [49] := by decide +kernel
end Lum
namespace Go.Proofs.YtnjaikomoljmjaaGreatDoor
open Go.RowKit Go.Shelf Lum
open Go.Lib (decDigits itoa)
attribute [local go_sem] bs_get bs_extract_end bs_extract_from bs_extract bs_append

set_option maxRecDepth 100000 in
set_option maxHeartbeats 8000000 in
theorem law_between (a b : Txt) (v : Int) (w : World) (ha : a.length ≤ 9223372036854775807) (hb : b.length ≤ 9223372036854775807) (v0 : 0 ≤ v) (v1 : v ≤ 255) (env : Env w) :
    Calls Tryz.prog 15 #[.string ⟨(a).toArray⟩, .string ⟨(b).toArray⟩, .int .u8 v] w fun e w' => e = .returned (.bool (true)) ∧ Below w.heap.size w w' := by
  have haw := fun W (e : Env W) => law02_awake W e
  have HAW := Lib.hid haw; clear haw
  have ENV := Lib.hid env; clear env
  have HB := Lib.hid ((Below.refl w.heap.size w).alloc (Nat.le_refl _) (.cells #[.string ⟨(a).toArray⟩, .string ⟨(b).toArray⟩] 42))
  have c0 : (w.alloc (.cells #[.string ⟨(a).toArray⟩, .string ⟨(b).toArray⟩] 42)).cell? ⟨w.heap.size, 0, none⟩ = some (.string ⟨(a).toArray⟩) := by rw [World.cell?_alloc_new]; rfl
  have c1 : (w.alloc (.cells #[.string ⟨(a).toArray⟩, .string ⟨(b).toArray⟩] 42)).cell? ⟨w.heap.size, 1, none⟩ = some (.string ⟨(b).toArray⟩) := by rw [World.cell?_alloc_new]; rfl
  have hsh := law02_short2 a b w.heap.size (w.alloc (.cells #[.string ⟨(a).toArray⟩, .string ⟨(b).toArray⟩] 42)) c0 c1
  clear c0 c1
  cases hk : (sB a && sB b)
  · rw [hk] at hsh
    clear hk
    have HSH := Lib.hid hsh; clear hsh
    go_enter Tryz.func15, Tryz.ntmps15
    go_wp2_with fail
    generalize w.alloc (.cells #[.string ⟨(a).toArray⟩, .string ⟨(b).toArray⟩] 42) = W0 at *
    refine ((HSH.out).mono ?_); rintro e w1 ⟨rfl, hb⟩; replace HB := Lib.hid (bch' HB.out hb); clear hb
    go_wp2_with (first | (with_reducible refine ((HAW.out _ (ENV.out.below HB.out)).mono ?_); rintro e w' ⟨rfl, hb⟩; replace HB := Lib.hid (bch' HB.out hb); clear hb))
    go_ret
    exact ⟨rfl, HB.out⟩
  rw [hk] at hsh
  rw [Bool.and_eq_true] at hk
  obtain ⟨ka, kb⟩ := hk
  obtain ⟨x, rfl, fx⟩ := sB_val ka
  obtain ⟨y, rfl, fy⟩ := sB_val kb
  clear ka ha kb hb
  have HSH := Lib.hid hsh; clear hsh
  obtain ⟨r0, r1, r2⟩ := part_range v v0 v1
  have fv := (divInt_fits v 255 (by omega) 19 (dl_i64 v (by omega) (by omega)) (dl_i64 255 (by omega) (by omega))).mono (show 19 ≤ 121 by omega)
  have fu := (divInt_fits (255 - v) 255 (by omega) 19 (dl_i64 (255 - v) (by omega) (by omega)) (dl_i64 255 (by omega) (by omega))).mono (show 19 ≤ 121 by omega)
  have q1 := fun W => r2_over v 255 W (by omega) (by omega) (by omega) (by omega) (by omega)
  have q2 := fun W => r2_over (255 - v) 255 W (by omega) (by omega) (by omega) (by omega) (by omega)
  have hwr : IntKind.i64.wrap (255 - v) = 255 - v := IntWalk.i64_in _ ⟨by omega, by omega⟩
  have m0 := fun W (e : Env W) => own_mix (showR x) (showR y) (showR (0)) W (len_ok fx (by omega)) (len_ok fy (by omega)) (len_ok (fits_zero 121 (by omega)) (by omega)) e
  rw [mix_small fx fy (fits_zero 121 (by omega))] at m0
  dsimp only at m0
  have m1 := fun W (e : Env W) => own_mix (showR x) (showR y) (showR (1)) W (len_ok fx (by omega)) (len_ok fy (by omega)) (len_ok fits_one (by omega)) e
  rw [mix_small fx fy fits_one] at m1
  dsimp only at m1
  have m2 := fun W (e : Env W) => own_mix (showR x) (showR y) (showR (Rat.divInt v 255)) W (len_ok fx (by omega)) (len_ok fy (by omega)) (len_ok fv (by omega)) e
  rw [mix_small fx fy fv] at m2
  dsimp only at m2
  have m3 := fun W (e : Env W) => own_mix (showR y) (showR x) (showR (Rat.divInt (255 - v) 255)) W (len_ok fy (by omega)) (len_ok fx (by omega)) (len_ok fu (by omega)) e
  rw [mix_small fy fx fu] at m3
  dsimp only at m3
  have fm := fits_mix fx fy fv
  obtain ⟨b0, b1⟩ := between_ge x y _ r0 r1
  rw [show x + (y - x) * 0 = x by grind, showR_zero] at m0
  rw [show x + (y - x) * 1 = y by grind, showR_one] at m1
  rw [show y + (x - y) * Rat.divInt (255 - v) 255 = x + (y - x) * Rat.divInt v 255 by rw [r2]; grind] at m3
  generalize x + (y - x) * Rat.divInt v 255 = m at *
  have kc := fun W => r2_check (showR m) W (len_ok fm (by omega))
  rw [check_small fm] at kc
  have gl := fun W => r2_least x y W (fx.mono (by omega)) (fy.mono (by omega))
  have gm := fun W => r2_most x y W (fx.mono (by omega)) (fy.mono (by omega))
  have ol := fun W => r2_order m (least x y) W (fm.mono (by omega)) ((fits_least fx fy).mono (by omega))
  have om := fun W => r2_order m (most x y) W (fm.mono (by omega)) ((fits_most fx fy).mono (by omega))
  have d0 : ¬ sgn m (least x y) < 0 := mt (sgn_lt _ _).1 (Rat.not_lt.2 b0)
  have d1 : ¬ 0 < sgn m (most x y) := mt (sgn_gt _ _).1 (Rat.not_lt.2 b1)
  clear b0 b1 r0 r1 r2 fv fu fm fx fy
  generalize sgn m (least x y) = s0 at *
  generalize sgn m (most x y) = s1 at *
  generalize showR (least x y) = tl at *
  generalize showR (most x y) = tm at *
  generalize showR (Rat.divInt v 255) = tv at *
  generalize showR (Rat.divInt (255 - v) 255) = tu at *
  generalize showR m = tx at *
  have Q1 := Lib.hid q1; clear q1
  have Q2 := Lib.hid q2; clear q2
  have M0 := Lib.hid m0; clear m0
  have M1 := Lib.hid m1; clear m1
  have M2 := Lib.hid m2; clear m2
  have M3 := Lib.hid m3; clear m3
  have KC := Lib.hid kc; clear kc
  have GL := Lib.hid gl; clear gl
  have GM := Lib.hid gm; clear gm
  have OL := Lib.hid ol; clear ol
  have OM := Lib.hid om; clear om
  go_enter Tryz.func15, Tryz.ntmps15
  go_wp2_with fail
  generalize w.alloc (.cells #[.string ⟨(showR x).toArray⟩, .string ⟨(showR y).toArray⟩] 42) = W0 at *
  refine ((HSH.out).mono ?_); rintro e w1 ⟨rfl, hb⟩; replace HB := Lib.hid (bch' HB.out hb); clear hb
  go_wp2_with (first | (with_reducible refine ((HAW.out _ (ENV.out.below HB.out)).mono ?_); rintro e w' ⟨rfl, hb⟩; replace HB := Lib.hid (bch' HB.out hb); clear hb) | (with_reducible refine ((Q1.out _).mono ?_); rintro e w' ⟨rfl, hb⟩; replace HB := Lib.hid (bch' HB.out hb); clear hb) | (with_reducible refine ((Q2.out _).mono ?_); rintro e w' ⟨rfl, hb⟩; replace HB := Lib.hid (bch' HB.out hb); clear hb) | (with_reducible refine ((M0.out _ (ENV.out.below HB.out)).mono ?_); rintro e w' ⟨rfl, hb⟩; replace HB := Lib.hid (bch' HB.out hb); clear hb) | (with_reducible refine ((M1.out _ (ENV.out.below HB.out)).mono ?_); rintro e w' ⟨rfl, hb⟩; replace HB := Lib.hid (bch' HB.out hb); clear hb) | (with_reducible refine ((M2.out _ (ENV.out.below HB.out)).mono ?_); rintro e w' ⟨rfl, hb⟩; replace HB := Lib.hid (bch' HB.out hb); clear hb) | (with_reducible refine ((M3.out _ (ENV.out.below HB.out)).mono ?_); rintro e w' ⟨rfl, hb⟩; replace HB := Lib.hid (bch' HB.out hb); clear hb) | (with_reducible refine ((KC.out _).mono ?_); rintro e w' ⟨rfl, hb⟩; replace HB := Lib.hid (bch' HB.out hb); clear hb) | (with_reducible refine ((GL.out _).mono ?_); rintro e w' ⟨rfl, hb⟩; replace HB := Lib.hid (bch' HB.out hb); clear hb) | (with_reducible refine ((GM.out _).mono ?_); rintro e w' ⟨rfl, hb⟩; replace HB := Lib.hid (bch' HB.out hb); clear hb) | (with_reducible refine ((OL.out _).mono ?_); rintro e w' ⟨rfl, hb⟩; replace HB := Lib.hid (bch' HB.out hb); clear hb) | (with_reducible refine ((OM.out _).mono ?_); rintro e w' ⟨rfl, hb⟩; replace HB := Lib.hid (bch' HB.out hb); clear hb))
  go_ret
  exact ⟨rfl, HB.out⟩
end Go.Proofs.YtnjaikomoljmjaaGreatDoor
