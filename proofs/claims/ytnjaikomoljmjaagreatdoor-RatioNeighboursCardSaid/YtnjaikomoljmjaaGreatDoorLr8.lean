/-
  The law RatioNeighbours: the walk.
-/
import Derived.Test.YtnjaikomoljmjaaGreatDoorLrs
set_option linter.unusedVariables false
set_option linter.unusedSimpArgs false
namespace Lum
open Go Go.RowKit Go.Shelf
open Go.Lib (decDigits itoa)
theorem near_floor (x : Rat) : near x = (x + half).floor := flr_floor _
theorem half_val : half + half = 1 := by decide +kernel
theorem showR_half : showR half = [49, 47, 50] := by decide +kernel
theorem showR_mhalf : showR (-half) = [45, 49, 47, 50] := by decide +kernel
theorem showR_one : showR 1 = [49] := by decide +kernel
theorem fits_half : Fits 121 half := by unfold Fits; decide +kernel
theorem fits_one : Fits 121 (1 : Rat) := by unfold Fits; decide +kernel
theorem near_dl (x : Rat) (h : Fit x) : dl (near x) ≤ 4097 := by
  have f := flr_dl x h
  rw [near_round]
  split
  · omega
  · have h1 : dl 1 = 1 := by decide +kernel
    have := dl_add (flr x) 1 4096 f (by omega)
    omega
theorem flr_fits {x : Rat} {k : Nat} (h : Fits k x) : dl (flr x) ≤ k := by
  have f := h.1
  have hp := x.den_pos
  refine Nat.le_trans (dl_mono ?_) f
  rw [flr, Int.fdiv_eq_ediv_of_nonneg _ (by omega)]
  rcases (show x.num < 0 ∨ 0 ≤ x.num by omega) with h | h
  · have h1 : x.num ≤ x.num / (x.den : Int) := (Int.le_ediv_iff_mul_le (by omega)).2 (by
      have := Int.mul_le_mul_of_nonpos_left (show x.num ≤ 0 by omega) (show (1 : Int) ≤ x.den by omega)
      omega)
    have h2 := Int.ediv_neg_of_neg_of_pos h (show (0 : Int) < x.den by omega)
    omega
  · have h1 := Int.ediv_le_self (x.den : Int) h
    have h2 := Int.ediv_nonneg h (show (0 : Int) ≤ x.den by omega)
    omega
theorem near_fits {x : Rat} {k : Nat} (hk : 1 ≤ k) (h : Fits k x) : dl (near x) ≤ k + 1 := by
  have f := flr_fits h
  rw [near_round]
  split
  · omega
  · have h1 : dl 1 = 1 := by decide +kernel
    exact dl_add (flr x) 1 k f (by omega)
theorem floor_gap (x : Rat) : ¬ x - (flr x : Rat) < 0 ∧ x - (flr x : Rat) < 1 := by
  have h1 := Rat.floor_le x
  have h2 := Rat.lt_floor_add_one x
  rw [Rat.intCast_add] at h2
  rw [flr_floor]
  constructor <;> grind
theorem near_gap (x : Rat) : -half < (near x : Rat) - x ∧ ¬ half < (near x : Rat) - x := by
  have h1 := Rat.floor_le (x + half)
  have h2 := Rat.lt_floor_add_one (x + half)
  rw [Rat.intCast_add] at h2
  have h3 := half_val
  rw [near_floor]
  constructor <;> grind
end Lum
namespace Go.Proofs.YtnjaikomoljmjaaGreatDoor
open Go.RowKit Go.Shelf Lum
open Go.Lib (decDigits itoa)
attribute [local go_sem] bs_get bs_extract_end bs_extract_from bs_extract bs_append

set_option maxRecDepth 100000 in
set_option maxHeartbeats 8000000 in
theorem law_neighbours (a : Txt) (w : World) (ha : a.length ≤ 9223372036854775807) (env : Env w) :
    Calls Tryz.prog 14 #[.string ⟨(a).toArray⟩] w fun e w' => e = .returned (.bool (true)) ∧ Below w.heap.size w w' := by
  have haw := fun W (e : Env W) => law02_awake W e
  have HAW := Lib.hid haw; clear haw
  have ENV := Lib.hid env; clear env
  have HB := Lib.hid ((Below.refl w.heap.size w).alloc (Nat.le_refl _) (.cells #[.string ⟨(a).toArray⟩] 42))
  have c0 : (w.alloc (.cells #[.string ⟨(a).toArray⟩] 42)).cell? ⟨w.heap.size, 0, none⟩ = some (.string ⟨(a).toArray⟩) := by rw [World.cell?_alloc_new]; rfl
  have hsh := law02_short1 a w.heap.size (w.alloc (.cells #[.string ⟨(a).toArray⟩] 42)) c0
  clear c0
  cases hk : (sB a)
  · rw [hk] at hsh
    clear hk
    have HSH := Lib.hid hsh; clear hsh
    go_enter Tryz.func14, Tryz.ntmps14
    go_wp2_with fail
    generalize w.alloc (.cells #[.string ⟨(a).toArray⟩] 42) = W0 at *
    refine ((HSH.out).mono ?_); rintro e w1 ⟨rfl, hb⟩; replace HB := Lib.hid (bch' HB.out hb); clear hb
    go_wp2_with (first | (with_reducible refine ((HAW.out _ (ENV.out.below HB.out)).mono ?_); rintro e w' ⟨rfl, hb⟩; replace HB := Lib.hid (bch' HB.out hb); clear hb))
    go_ret
    exact ⟨rfl, HB.out⟩
  rw [hk] at hsh
  have ka := hk
  clear hk
  obtain ⟨x, rfl, fx⟩ := sB_val ka
  clear ka ha
  have HSH := Lib.hid hsh; clear hsh
  have gf := fun W (e : Env W) => own_floor (showR x) W (len_ok fx (by omega)) e
  have gn := fun W (e : Env W) => own_round (showR x) W (len_ok fx (by omega)) e
  have hz : ratCheck (showR x) = 0 := check_small (fx.mono (by omega))
  unfold floorT at gf
  unfold roundT at gn
  rw [if_neg (by simpa using hz), valR_showR] at gf gn
  dsimp only at gf gn
  have l1 := flr_fits fx
  have l2 := near_fits (by omega) fx
  have kf := fun W => r1_check (itoa (flr x)) W (by have := itoa_len_dl (flr x); omega)
  have kn := fun W => r1_check (itoa (near x)) W (by have := itoa_len_dl (near x); omega)
  rw [intCheck_ok _ (by omega)] at kf kn
  have ff := fits_int (flr x) 122 (by omega) (by omega)
  have fn := fits_int (near x) 122 (by omega) (by omega)
  have fx2 := fx.mono (show 121 ≤ 122 by omega)
  have fp := fits_sub fx2 ff
  have fg := fits_sub fn fx2
  have h1 := fun W (e : Env W) => own_rsub (showR (x)) (showR ((flr x : Rat))) W e (len_ok fx2 (by omega)) (len_ok ff (by omega))
  rw [sub_small (fx2.mono (by omega)) (ff.mono (by omega))] at h1
  dsimp only at h1
  have h2 := fun W (e : Env W) => own_rsub (showR ((near x : Rat))) (showR (x)) W e (len_ok fn (by omega)) (len_ok fx2 (by omega))
  rw [sub_small (fn.mono (by omega)) (fx2.mono (by omega))] at h2
  dsimp only at h2
  rw [showR_int] at h1 h2
  have k1 := fun W => r2_check (showR (x - (flr x : Rat))) W (len_ok fp (by omega))
  have k2 := fun W => r2_check (showR ((near x : Rat) - x)) W (len_ok fg (by omega))
  rw [check_small (fp.mono (by omega))] at k1
  rw [check_small (fg.mono (by omega))] at k2
  have o0 := fun W => r2_order (x - (flr x : Rat)) (0) W (fp.mono (by omega)) ((fits_zero 121 (by omega)).mono (by omega))
  have o1 := fun W => r2_order (x - (flr x : Rat)) (1) W (fp.mono (by omega)) (fits_one.mono (by omega))
  have o2 := fun W => r2_order ((near x : Rat) - x) (-half) W (fg.mono (by omega)) ((fits_neg fits_half).mono (by omega))
  have o3 := fun W => r2_order ((near x : Rat) - x) (half) W (fg.mono (by omega)) (fits_half.mono (by omega))
  rw [showR_zero] at o0
  rw [showR_one] at o1
  rw [showR_mhalf] at o2
  rw [showR_half] at o3
  have g1 := floor_gap x
  have g2 := near_gap x
  have d0 : ¬ sgn (x - (flr x : Rat)) 0 < 0 := mt (sgn_lt _ _).1 g1.1
  have d1 : sgn (x - (flr x : Rat)) 1 < 0 := (sgn_lt _ _).2 g1.2
  have d2 : 0 < sgn ((near x : Rat) - x) (-half) := (sgn_gt _ _).2 g2.1
  have d3 : ¬ 0 < sgn ((near x : Rat) - x) half := mt (sgn_gt _ _).1 g2.2
  clear g1 g2 l1 l2 ff fn fx fx2 fp fg hz
  generalize sgn (x - (flr x : Rat)) 0 = s0 at *
  generalize sgn (x - (flr x : Rat)) 1 = s1 at *
  generalize sgn ((near x : Rat) - x) (-half) = s2 at *
  generalize sgn ((near x : Rat) - x) half = s3 at *
  generalize showR (x - (flr x : Rat)) = tp at *
  generalize showR ((near x : Rat) - x) = tg at *
  generalize itoa (flr x) = tf at *
  generalize itoa (near x) = tn at *
  have GF := Lib.hid gf; clear gf
  have GN := Lib.hid gn; clear gn
  have KF := Lib.hid kf; clear kf
  have KN := Lib.hid kn; clear kn
  have H1 := Lib.hid h1; clear h1
  have H2 := Lib.hid h2; clear h2
  have K1 := Lib.hid k1; clear k1
  have K2 := Lib.hid k2; clear k2
  have O0 := Lib.hid o0; clear o0
  have O1 := Lib.hid o1; clear o1
  have O2 := Lib.hid o2; clear o2
  have O3 := Lib.hid o3; clear o3
  go_enter Tryz.func14, Tryz.ntmps14
  go_wp2_with fail
  generalize w.alloc (.cells #[.string ⟨(showR x).toArray⟩] 42) = W0 at *
  refine ((HSH.out).mono ?_); rintro e w1 ⟨rfl, hb⟩; replace HB := Lib.hid (bch' HB.out hb); clear hb
  go_wp2_with (first | (with_reducible refine ((HAW.out _ (ENV.out.below HB.out)).mono ?_); rintro e w' ⟨rfl, hb⟩; replace HB := Lib.hid (bch' HB.out hb); clear hb) | (with_reducible refine ((GF.out _ (ENV.out.below HB.out)).mono ?_); rintro e w' ⟨rfl, hb⟩; replace HB := Lib.hid (bch' HB.out hb); clear hb) | (with_reducible refine ((GN.out _ (ENV.out.below HB.out)).mono ?_); rintro e w' ⟨rfl, hb⟩; replace HB := Lib.hid (bch' HB.out hb); clear hb) | (with_reducible refine ((KF.out _).mono ?_); rintro e w' ⟨rfl, rfl⟩) | (with_reducible refine ((KN.out _).mono ?_); rintro e w' ⟨rfl, rfl⟩) | (with_reducible refine ((H1.out _ (ENV.out.below HB.out)).mono ?_); rintro e w' ⟨rfl, hb⟩; replace HB := Lib.hid (bch' HB.out hb); clear hb) | (with_reducible refine ((H2.out _ (ENV.out.below HB.out)).mono ?_); rintro e w' ⟨rfl, hb⟩; replace HB := Lib.hid (bch' HB.out hb); clear hb) | (with_reducible refine ((K1.out _).mono ?_); rintro e w' ⟨rfl, hb⟩; replace HB := Lib.hid (bch' HB.out hb); clear hb) | (with_reducible refine ((K2.out _).mono ?_); rintro e w' ⟨rfl, hb⟩; replace HB := Lib.hid (bch' HB.out hb); clear hb) | (with_reducible refine ((O0.out _).mono ?_); rintro e w' ⟨rfl, hb⟩; replace HB := Lib.hid (bch' HB.out hb); clear hb) | (with_reducible refine ((O1.out _).mono ?_); rintro e w' ⟨rfl, hb⟩; replace HB := Lib.hid (bch' HB.out hb); clear hb) | (with_reducible refine ((O2.out _).mono ?_); rintro e w' ⟨rfl, hb⟩; replace HB := Lib.hid (bch' HB.out hb); clear hb) | (with_reducible refine ((O3.out _).mono ?_); rintro e w' ⟨rfl, hb⟩; replace HB := Lib.hid (bch' HB.out hb); clear hb))
  go_ret
  exact ⟨rfl, HB.out⟩
end Go.Proofs.YtnjaikomoljmjaaGreatDoor
