/-
  Layer 28: the law EffectPeriods.
-/
import Derived.Test.YtbamcfhmkohbmaaGreatDoorYk
import Derived.Test.YtbamcfhmkohbmaaGreatDoorYg
set_option linter.unusedVariables false
set_option linter.unusedSimpArgs false
namespace Lum
open Go Go.RowKit Go.Shelf
open Go.Lib (decDigits itoa)
/-- The least height of the first point and the first i points. -/
def loY (l : List (Int × Int)) : Nat → Int
  | 0 => pY l 0
  | i + 1 => min (loY l i) (pY l i)
/-- The greatest. -/
def hiY (l : List (Int × Int)) : Nat → Int
  | 0 => pY l 0
  | i + 1 => max (hiY l i) (pY l i)
theorem loY_le (l : List (Int × Int)) : ∀ i j, j < i → loY l i ≤ pY l j
  | i + 1, j, h => by
    have e : loY l (i + 1) = min (loY l i) (pY l i) := rfl
    rw [e]
    by_cases hj : j = i
    · subst hj; omega
    · have := loY_le l i j (by omega); omega
theorem hiY_ge (l : List (Int × Int)) : ∀ i j, j < i → pY l j ≤ hiY l i
  | i + 1, j, h => by
    have e : hiY l (i + 1) = max (hiY l i) (pY l i) := rfl
    rw [e]
    by_cases hj : j = i
    · subst hj; omega
    · have := hiY_ge l i j (by omega); omega
theorem loY_bd {l : List (Int × Int)} (h : ∀ i, i < l.length → -1000 ≤ pY l i ∧ pY l i ≤ 1000) (h0 : 0 < l.length) : ∀ i, i ≤ l.length → -1000 ≤ loY l i ∧ loY l i ≤ 1000
  | 0, _ => h 0 h0
  | i + 1, hi => by
    have e : loY l (i + 1) = min (loY l i) (pY l i) := rfl
    have := loY_bd h h0 i (by omega); have := h i (by omega)
    rw [e]; omega
theorem hiY_bd {l : List (Int × Int)} (h : ∀ i, i < l.length → -1000 ≤ pY l i ∧ pY l i ≤ 1000) (h0 : 0 < l.length) : ∀ i, i ≤ l.length → -1000 ≤ hiY l i ∧ hiY l i ≤ 1000
  | 0, _ => h 0 h0
  | i + 1, hi => by
    have e : hiY l (i + 1) = max (hiY l i) (pY l i) := rfl
    have := hiY_bd h h0 i (by omega); have := h i (by omega)
    rw [e]; omega
theorem sgn_ge28 {x y : Rat} (h : y ≤ x) : 0 ≤ sgn x y := Int.not_lt.1 fun g => absurd ((sgn_lt x y).1 g) (Rat.not_lt.2 h)
theorem sgn_le28 {x y : Rat} (h : x ≤ y) : sgn x y ≤ 0 := Int.not_lt.1 fun g => absurd ((sgn_gt x y).1 g) (Rat.not_lt.2 h)
end Lum
namespace Go.Proofs.YtbamcfhmkohbmaaGreatDoor
open Go.RowKit Go.Shelf Lum
open Go.Lib (decDigits itoa)
attribute [local go_sem] bs_get bs_extract_end bs_extract_from bs_extract bs_append

set_option maxRecDepth 100000 in
set_option maxHeartbeats 8000000 in
theorem law_eperiods (x : Efx × Sl3) (i k at_ n : Int) (w : World) (hv : PtsAt w (.slice x.2.1 x.2.2.1 x.2.2.2) x.1.wv) (hi : (-9223372036854775808 ≤ i ∧ i ≤ 9223372036854775807)) (hk : (-9223372036854775808 ≤ k ∧ k ≤ 9223372036854775807)) (ha : (-9223372036854775808 ≤ at_ ∧ at_ ≤ 9223372036854775807)) (hn0 : 0 ≤ n) (hn1 : n ≤ 255) (env : Env w) :
    Calls Tryz.prog 4 #[.agg #[.int .i64 x.1.nu, .int .i64 x.1.at_, .slice x.2.1 x.2.2.1 x.2.2.2, .int .i64 x.1.pe, .int .i64 x.1.sp, .int .i64 x.1.sz], .agg #[.int .i64 i, .int .i64 k, .int .i64 at_], .int .u8 n] w fun e w' => e = .returned (.bool (true)) ∧ Below w.heap.size w w' := by
  obtain ⟨X, p, n0, c⟩ := x
  dsimp only at hv ⊢
  obtain ⟨hnl, hop⟩ := PtsAt.opn hv
  subst hnl
  have ENV := Lib.hid env; clear env
  have hal := ((Below.refl w.heap.size w).alloc (Nat.le_refl _) (.cells #[.int .i64 (X.nu), .int .i64 (X.at_), .slice p X.wv.length c, .int .i64 (X.pe), .int .i64 (X.sp), .int .i64 (X.sz)] 36)).alloc (by simp) (.cells #[.int .i64 i, .int .i64 k, .int .i64 at_] 38)
  have hef := fun W (h : PtsAt W (.slice p X.wv.length c) X.wv) => r28_effect X.nu X.at_ X.pe X.sp X.sz X.wv p X.wv.length c W h
  change ∀ W, PtsAt W (.slice p X.wv.length c) X.wv → Calls _ _ _ _ (fun e w' => e = .returned (.int .i64 (efE X)) ∧ _) at hef
  have HV := Lib.hid (PtsAt.below hv hal); have HB := Lib.hid hal; clear hal
  have HK := Lib.hid ((Blk.new w 36 #[.int .i64 (X.nu), .int .i64 (X.at_), .slice p X.wv.length c, .int .i64 (X.pe), .int .i64 (X.sp), .int .i64 (X.sz)]).alloc (.cells #[.int .i64 i, .int .i64 k, .int .i64 at_] 38))
  have hA := Blk.new (w.alloc (.cells #[.int .i64 (X.nu), .int .i64 (X.at_), .slice p X.wv.length c, .int .i64 (X.pe), .int .i64 (X.sp), .int .i64 (X.sz)] 36)) 38 #[.int .i64 i, .int .i64 k, .int .i64 at_]
  rw [World.size_alloc] at hA
  have HM := Lib.hid hA; clear hA
  have haw := fun W (e : Env W) => l28_awake W e
  have hrd := fun W => r23_reading at_ W
  have c4 : IntKind.i64.wrap (n % 8) = n % 8 := IntWalk.i64_in _ (by omega)
  have c5 : IntKind.u8.wrap (n % 8) = n % 8 := IntWalk.u8_in _ (by omega)
  by_cases hz : efE X = 0
  · by_cases o0 : k < 1
    · rw [hz] at hef
      clear hv hop
      have HAW := Lib.hid haw; clear haw
      have HEF := Lib.hid hef; clear hef
      have HRD := Lib.hid hrd; clear hrd
      obtain ⟨k0, k1, k2, k3, k4, k5, kf0, kf1, kf2, kf3, kf4, kf5⟩ := HK.out.c6
      obtain ⟨m0, m1, m2, mf0, mf1, mf2⟩ := HM.out.c3
      go_enter Tryz.func4, Tryz.ntmps4
      go_wp2_with (first | (with_reducible refine ((HEF.out _ HV.out).mono ?_); rintro e w' ⟨rfl, hb⟩; replace HK := Lib.hid (HK.out.keep hb); clear k0 k1 k2 k3 k4 k5 kf0 kf1 kf2 kf3 kf4 kf5; replace HM := Lib.hid (HM.out.keep hb); clear m0 m1 m2 mf0 mf1 mf2; replace HV := Lib.hid (PtsAt.below HV.out hb); replace HB := Lib.hid (bch' HB.out hb); clear hb; obtain ⟨k0, k1, k2, k3, k4, k5, kf0, kf1, kf2, kf3, kf4, kf5⟩ := HK.out.c6; obtain ⟨m0, m1, m2, mf0, mf1, mf2⟩ := HM.out.c3) | (with_reducible refine ((HAW.out _ (ENV.out.below HB.out)).mono ?_); rintro e w' ⟨rfl, hb⟩; replace HK := Lib.hid (HK.out.keep hb); clear k0 k1 k2 k3 k4 k5 kf0 kf1 kf2 kf3 kf4 kf5; replace HM := Lib.hid (HM.out.keep hb); clear m0 m1 m2 mf0 mf1 mf2; replace HV := Lib.hid (PtsAt.below HV.out hb); replace HB := Lib.hid (bch' HB.out hb); clear hb; obtain ⟨k0, k1, k2, k3, k4, k5, kf0, kf1, kf2, kf3, kf4, kf5⟩ := HK.out.c6; obtain ⟨m0, m1, m2, mf0, mf1, mf2⟩ := HM.out.c3) | (with_reducible refine ((HRD.out _).mono ?_); rintro e w' ⟨rfl, rfl⟩))
      go_ret
      exact ⟨rfl, HB.out⟩
    by_cases o1 : 20 < k
    · rw [hz] at hef
      clear hv hop
      have HAW := Lib.hid haw; clear haw
      have HEF := Lib.hid hef; clear hef
      have HRD := Lib.hid hrd; clear hrd
      obtain ⟨k0, k1, k2, k3, k4, k5, kf0, kf1, kf2, kf3, kf4, kf5⟩ := HK.out.c6
      obtain ⟨m0, m1, m2, mf0, mf1, mf2⟩ := HM.out.c3
      go_enter Tryz.func4, Tryz.ntmps4
      go_wp2_with (first | (with_reducible refine ((HEF.out _ HV.out).mono ?_); rintro e w' ⟨rfl, hb⟩; replace HK := Lib.hid (HK.out.keep hb); clear k0 k1 k2 k3 k4 k5 kf0 kf1 kf2 kf3 kf4 kf5; replace HM := Lib.hid (HM.out.keep hb); clear m0 m1 m2 mf0 mf1 mf2; replace HV := Lib.hid (PtsAt.below HV.out hb); replace HB := Lib.hid (bch' HB.out hb); clear hb; obtain ⟨k0, k1, k2, k3, k4, k5, kf0, kf1, kf2, kf3, kf4, kf5⟩ := HK.out.c6; obtain ⟨m0, m1, m2, mf0, mf1, mf2⟩ := HM.out.c3) | (with_reducible refine ((HAW.out _ (ENV.out.below HB.out)).mono ?_); rintro e w' ⟨rfl, hb⟩; replace HK := Lib.hid (HK.out.keep hb); clear k0 k1 k2 k3 k4 k5 kf0 kf1 kf2 kf3 kf4 kf5; replace HM := Lib.hid (HM.out.keep hb); clear m0 m1 m2 mf0 mf1 mf2; replace HV := Lib.hid (PtsAt.below HV.out hb); replace HB := Lib.hid (bch' HB.out hb); clear hb; obtain ⟨k0, k1, k2, k3, k4, k5, kf0, kf1, kf2, kf3, kf4, kf5⟩ := HK.out.c6; obtain ⟨m0, m1, m2, mf0, mf1, mf2⟩ := HM.out.c3) | (with_reducible refine ((HRD.out _).mono ?_); rintro e w' ⟨rfl, rfl⟩))
      go_ret
      exact ⟨rfl, HB.out⟩
    by_cases o2 : i < 0
    · rw [hz] at hef
      clear hv hop
      have HAW := Lib.hid haw; clear haw
      have HEF := Lib.hid hef; clear hef
      have HRD := Lib.hid hrd; clear hrd
      obtain ⟨k0, k1, k2, k3, k4, k5, kf0, kf1, kf2, kf3, kf4, kf5⟩ := HK.out.c6
      obtain ⟨m0, m1, m2, mf0, mf1, mf2⟩ := HM.out.c3
      go_enter Tryz.func4, Tryz.ntmps4
      go_wp2_with (first | (with_reducible refine ((HEF.out _ HV.out).mono ?_); rintro e w' ⟨rfl, hb⟩; replace HK := Lib.hid (HK.out.keep hb); clear k0 k1 k2 k3 k4 k5 kf0 kf1 kf2 kf3 kf4 kf5; replace HM := Lib.hid (HM.out.keep hb); clear m0 m1 m2 mf0 mf1 mf2; replace HV := Lib.hid (PtsAt.below HV.out hb); replace HB := Lib.hid (bch' HB.out hb); clear hb; obtain ⟨k0, k1, k2, k3, k4, k5, kf0, kf1, kf2, kf3, kf4, kf5⟩ := HK.out.c6; obtain ⟨m0, m1, m2, mf0, mf1, mf2⟩ := HM.out.c3) | (with_reducible refine ((HAW.out _ (ENV.out.below HB.out)).mono ?_); rintro e w' ⟨rfl, hb⟩; replace HK := Lib.hid (HK.out.keep hb); clear k0 k1 k2 k3 k4 k5 kf0 kf1 kf2 kf3 kf4 kf5; replace HM := Lib.hid (HM.out.keep hb); clear m0 m1 m2 mf0 mf1 mf2; replace HV := Lib.hid (PtsAt.below HV.out hb); replace HB := Lib.hid (bch' HB.out hb); clear hb; obtain ⟨k0, k1, k2, k3, k4, k5, kf0, kf1, kf2, kf3, kf4, kf5⟩ := HK.out.c6; obtain ⟨m0, m1, m2, mf0, mf1, mf2⟩ := HM.out.c3) | (with_reducible refine ((HRD.out _).mono ?_); rintro e w' ⟨rfl, rfl⟩))
      go_ret
      exact ⟨rfl, HB.out⟩
    by_cases o3 : k ≤ i
    · rw [hz] at hef
      clear hv hop
      have HAW := Lib.hid haw; clear haw
      have HEF := Lib.hid hef; clear hef
      have HRD := Lib.hid hrd; clear hrd
      obtain ⟨k0, k1, k2, k3, k4, k5, kf0, kf1, kf2, kf3, kf4, kf5⟩ := HK.out.c6
      obtain ⟨m0, m1, m2, mf0, mf1, mf2⟩ := HM.out.c3
      go_enter Tryz.func4, Tryz.ntmps4
      go_wp2_with (first | (with_reducible refine ((HEF.out _ HV.out).mono ?_); rintro e w' ⟨rfl, hb⟩; replace HK := Lib.hid (HK.out.keep hb); clear k0 k1 k2 k3 k4 k5 kf0 kf1 kf2 kf3 kf4 kf5; replace HM := Lib.hid (HM.out.keep hb); clear m0 m1 m2 mf0 mf1 mf2; replace HV := Lib.hid (PtsAt.below HV.out hb); replace HB := Lib.hid (bch' HB.out hb); clear hb; obtain ⟨k0, k1, k2, k3, k4, k5, kf0, kf1, kf2, kf3, kf4, kf5⟩ := HK.out.c6; obtain ⟨m0, m1, m2, mf0, mf1, mf2⟩ := HM.out.c3) | (with_reducible refine ((HAW.out _ (ENV.out.below HB.out)).mono ?_); rintro e w' ⟨rfl, hb⟩; replace HK := Lib.hid (HK.out.keep hb); clear k0 k1 k2 k3 k4 k5 kf0 kf1 kf2 kf3 kf4 kf5; replace HM := Lib.hid (HM.out.keep hb); clear m0 m1 m2 mf0 mf1 mf2; replace HV := Lib.hid (PtsAt.below HV.out hb); replace HB := Lib.hid (bch' HB.out hb); clear hb; obtain ⟨k0, k1, k2, k3, k4, k5, kf0, kf1, kf2, kf3, kf4, kf5⟩ := HK.out.c6; obtain ⟨m0, m1, m2, mf0, mf1, mf2⟩ := HM.out.c3) | (with_reducible refine ((HRD.out _).mono ?_); rintro e w' ⟨rfl, rfl⟩))
      go_ret
      exact ⟨rfl, HB.out⟩
    by_cases hr : 0 ≤ at_ ∧ at_ ≤ 8000000000
    · have ho := efOk hz
      have hpe := ho.pe; have hsz := ho.sz
      have hw := wvE_zero ho.wv
      have b0 : 0 ≤ 100 * X.pe * (n % 8) := Int.mul_nonneg (by omega) (by omega)
      have b1 : 100 * X.pe * (n % 8) ≤ 1000000000 * 7 := Int.mul_le_mul (by omega) (by omega) (by omega) (by omega)
      have w1 : IntKind.i64.wrap (100 * X.pe) = 100 * X.pe := IntWalk.i64_in _ (by omega)
      have w2 : IntKind.i64.wrap (100 * X.pe * (n % 8)) = 100 * X.pe * (n % 8) := IntWalk.i64_in _ (by omega)
      have w3 : IntKind.i64.wrap (at_ + 100 * X.pe * (n % 8)) = at_ + 100 * X.pe * (n % 8) := IntWalk.i64_in _ (by omega)
      have hrd2 := fun W => r23_reading (at_ + 100 * X.pe * (n % 8)) W
      rw [hz] at hef
      rw [show rdB at_ = true from (rdB_iff at_).2 hr] at hrd
      by_cases hr2 : 0 ≤ at_ + 100 * X.pe * (n % 8) ∧ at_ + 100 * X.pe * (n % 8) ≤ 8000000000
      · rw [show rdB (at_ + 100 * X.pe * (n % 8)) = true from (rdB_iff _).2 hr2] at hrd2
        have hob1 : ofB i k at_ := by unfold ofB; omega
        have hob2 : ofB i k (at_ + 100 * X.pe * (n % 8)) := by unfold ofB; omega
        have hoa := fun W (h : PtsAt W (.slice p X.wv.length c) X.wv) (e : Env W) => own_eOffset (X, p, X.wv.length, c) i k at_ W h e
        dsimp only at hoa
        rw [ofsT_ok hz hob1] at hoa
        have hob := fun W (h : PtsAt W (.slice p X.wv.length c) X.wv) (e : Env W) => own_eOffset (X, p, X.wv.length, c) i k (at_ + 100 * X.pe * (n % 8)) W h e
        dsimp only at hob
        rw [ofsT_ok hz hob2, offQ_again ho] at hob
        have fq : Fits 60 (offQ X i k at_) := offQ_fits ho hob1
        have hck := fun W => r2_check (showR (offQ X i k at_)) W (len_ok fq (by omega))
        rw [ratCheck_showR _ (fits_fit2 fq (by omega))] at hck
        dsimp only at hoa hob
        have hlen : 0 < X.wv.length := by have := hw.lo; omega
        obtain ⟨b, o, rfl, hbb, hC⟩ := hop (fun e => by rw [e] at hlen; exact absurd hlen (Nat.lt_irrefl _))
        have bl0 := loY_bd hw.h hlen X.wv.length (Nat.le_refl _)
        have bh0 := hiY_bd hw.h hlen X.wv.length (Nat.le_refl _)
        obtain ⟨q0, q1⟩ := offQ_between ho i k at_ (loY X.wv X.wv.length) (hiY X.wv X.wv.length) (fun j hj => loY_le _ _ _ hj) (fun j hj => hiY_ge _ _ _ hj)
        have b2 : X.sz * loY X.wv X.wv.length ≤ 65535 * 1000 := by
          have a := Int.mul_le_mul_of_nonneg_left bl0.2 hsz.1
          have := Int.mul_le_mul_of_nonneg_right hsz.2 (show (0 : Int) ≤ 1000 by omega)
          omega
        have b3 : -(65535 * 1000) ≤ X.sz * loY X.wv X.wv.length := by
          have a := Int.mul_le_mul_of_nonneg_left bl0.1 hsz.1
          omega
        have b4 : X.sz * hiY X.wv X.wv.length ≤ 65535 * 1000 := by
          have a := Int.mul_le_mul_of_nonneg_left bh0.2 hsz.1
          omega
        have b5 : -(65535 * 1000) ≤ X.sz * hiY X.wv X.wv.length := by
          have a := Int.mul_le_mul_of_nonneg_left bh0.1 hsz.1
          omega
        have w5 : IntKind.i64.wrap (X.sz * loY X.wv X.wv.length) = X.sz * loY X.wv X.wv.length := IntWalk.i64_in _ (by omega)
        have w6 : IntKind.i64.wrap (X.sz * hiY X.wv X.wv.length) = X.sz * hiY X.wv X.wv.length := IntWalk.i64_in _ (by omega)
        have hv1 := fun W => r2_over (X.sz * loY X.wv X.wv.length) 1000 W (by omega) (by omega) (by omega) (by omega) (by omega)
        have hv2 := fun W => r2_over (X.sz * hiY X.wv X.wv.length) 1000 W (by omega) (by omega) (by omega) (by omega) (by omega)
        have fd : ∀ z : Int, -(65535 * 1000) ≤ z → z ≤ 65535 * 1000 → Fits 9000 (Rat.divInt z 1000) := fun z h1 h2 => (fits_div (k := 9) (by omega) ⟨by omega, by omega⟩ (by omega) (by omega)).mono (by omega)
        have ho1 := fun W => r2_order (offQ X i k at_) (Rat.divInt (X.sz * loY X.wv X.wv.length) 1000) W (fq.mono (by omega)) (fd _ b3 b2)
        have ho2 := fun W => r2_order (offQ X i k at_) (Rat.divInt (X.sz * hiY X.wv X.wv.length) 1000) W (fq.mono (by omega)) (fd _ b5 b4)
        have s1 := sgn_ge28 q0
        have s2 := sgn_le28 q1
        generalize showR (Rat.divInt (X.sz * loY X.wv X.wv.length) 1000) = z1 at *
        generalize showR (Rat.divInt (X.sz * hiY X.wv X.wv.length) 1000) = z2 at *
        generalize sgn (offQ X i k at_) (Rat.divInt (X.sz * loY X.wv X.wv.length) 1000) = g1 at *
        generalize sgn (offQ X i k at_) (Rat.divInt (X.sz * hiY X.wv X.wv.length) 1000) = g2 at *
        generalize showR (offQ X i k at_) = z0 at *
        have h16 := hw.hi
        have HC := Lib.hid hC; have HBb := Lib.hid hbb
        clear hv hz hob1 hob2 ho hw hC hbb hpe hsz fq fd q0 q1 hop bl0 bh0 b2 b3 b4 b5
        have HAW := Lib.hid haw; clear haw
        have HEF := Lib.hid hef; clear hef
        have HRD := Lib.hid hrd; clear hrd
        have HRD2 := Lib.hid hrd2; clear hrd2
        have HOA := Lib.hid hoa; clear hoa
        have HOB := Lib.hid hob; clear hob
        have HCK := Lib.hid hck; clear hck
        have HV1 := Lib.hid hv1; clear hv1
        have HV2 := Lib.hid hv2; clear hv2
        have HO1 := Lib.hid ho1; clear ho1
        have HO2 := Lib.hid ho2; clear ho2
        obtain ⟨k0, k1, k2, k3, k4, k5, kf0, kf1, kf2, kf3, kf4, kf5⟩ := HK.out.c6
        obtain ⟨m0, m1, m2, mf0, mf1, mf2⟩ := HM.out.c3
        go_enter Tryz.func4, Tryz.ntmps4
        go_upto_region 7 with (first | (with_reducible refine ((HEF.out _ HV.out).mono ?_); rintro e w' ⟨rfl, hb⟩; replace HK := Lib.hid (HK.out.keep hb); clear k0 k1 k2 k3 k4 k5 kf0 kf1 kf2 kf3 kf4 kf5; replace HM := Lib.hid (HM.out.keep hb); clear m0 m1 m2 mf0 mf1 mf2; replace HV := Lib.hid (PtsAt.below HV.out hb); replace HB := Lib.hid (bch' HB.out hb); clear hb; obtain ⟨k0, k1, k2, k3, k4, k5, kf0, kf1, kf2, kf3, kf4, kf5⟩ := HK.out.c6; obtain ⟨m0, m1, m2, mf0, mf1, mf2⟩ := HM.out.c3) | (with_reducible refine ((HRD.out _).mono ?_); rintro e w' ⟨rfl, rfl⟩) | (with_reducible refine ((HRD2.out _).mono ?_); rintro e w' ⟨rfl, rfl⟩) | (with_reducible refine ((HOA.out _ HV.out (ENV.out.below HB.out)).mono ?_); rintro e w' ⟨rfl, hb⟩; replace HK := Lib.hid (HK.out.keep hb); clear k0 k1 k2 k3 k4 k5 kf0 kf1 kf2 kf3 kf4 kf5; replace HM := Lib.hid (HM.out.keep hb); clear m0 m1 m2 mf0 mf1 mf2; replace HV := Lib.hid (PtsAt.below HV.out hb); replace HB := Lib.hid (bch' HB.out hb); clear hb; obtain ⟨k0, k1, k2, k3, k4, k5, kf0, kf1, kf2, kf3, kf4, kf5⟩ := HK.out.c6; obtain ⟨m0, m1, m2, mf0, mf1, mf2⟩ := HM.out.c3) | (with_reducible refine ((HOB.out _ HV.out (ENV.out.below HB.out)).mono ?_); rintro e w' ⟨rfl, hb⟩; replace HK := Lib.hid (HK.out.keep hb); clear k0 k1 k2 k3 k4 k5 kf0 kf1 kf2 kf3 kf4 kf5; replace HM := Lib.hid (HM.out.keep hb); clear m0 m1 m2 mf0 mf1 mf2; replace HV := Lib.hid (PtsAt.below HV.out hb); replace HB := Lib.hid (bch' HB.out hb); clear hb; obtain ⟨k0, k1, k2, k3, k4, k5, kf0, kf1, kf2, kf3, kf4, kf5⟩ := HK.out.c6; obtain ⟨m0, m1, m2, mf0, mf1, mf2⟩ := HM.out.c3) | (with_reducible refine ((HCK.out _).mono ?_); rintro e w' ⟨rfl, hb⟩; replace HK := Lib.hid (HK.out.keep hb); clear k0 k1 k2 k3 k4 k5 kf0 kf1 kf2 kf3 kf4 kf5; replace HM := Lib.hid (HM.out.keep hb); clear m0 m1 m2 mf0 mf1 mf2; replace HV := Lib.hid (PtsAt.below HV.out hb); replace HB := Lib.hid (bch' HB.out hb); clear hb; obtain ⟨k0, k1, k2, k3, k4, k5, kf0, kf1, kf2, kf3, kf4, kf5⟩ := HK.out.c6; obtain ⟨m0, m1, m2, mf0, mf1, mf2⟩ := HM.out.c3))
        clear HEF HRD HRD2 HOA HOB HCK HV
        have f2 := fun p : BelowOf _ => (HK.out.keep p.h).c6.2.2.1
        have f3 := fun p : BelowOf _ => (PtC.below HC.out (bch' HB.out p.h) HBb.out).zero hlen |>.2
        refine wp_region_WQ (by kernel_rfl) (by kernel_rfl) ?_
        repeat (refine WQ.step (fun K hK => ?_); go_simp; first | (refine hK.out _ ?_; clear hK K) | (apply Exists.intro; refine ⟨fun _ => ?_, hK.out _ ?_⟩; (first | rfl); clear hK K))
        refine WQ.nil ?_
        intro _ hw'
        obtain ⟨⟨wq, hbq⟩, hw2⟩ := hw'
        subst hw2
        replace HK := Lib.hid (HK.out.keep hbq)
        replace HM := Lib.hid (HM.out.keep hbq)
        replace HB := Lib.hid (bch' HB.out hbq)
        clear f2 f3
        clear k0 k1 k2 k3 k4 k5 kf0 kf1 kf2 kf3 kf4 kf5
        clear m0 m1 m2 mf0 mf1 mf2
        obtain ⟨k0, k1, k2, k3, k4, k5, kf0, kf1, kf2, kf3, kf4, kf5⟩ := HK.out.c6
        obtain ⟨m0, m1, m2, mf0, mf1, mf2⟩ := HM.out.c3
        go_upto_region 9 with fail
        go_loopw [11, 12, 118] (fun s11 s12 s118 wr => ∃ u : Nat, s118 = .int .i64 (u : Int) ∧ u ≤ X.wv.length ∧ s11 = .int .i64 (loY X.wv u) ∧ s12 = .int .i64 (hiY X.wv u) ∧ Hid (Below w.heap.size w wr) ∧ Hid (Blk wr w.heap.size 36 #[.int .i64 (X.nu), .int .i64 (X.at_), .slice (some ⟨b, o, none⟩) X.wv.length c, .int .i64 (X.pe), .int .i64 (X.sp), .int .i64 (X.sz)]) ∧ Hid (Blk wr (w.heap.size + 1) 38 #[.int .i64 i, .int .i64 k, .int .i64 at_])) (fun _ _ s118 _ => X.wv.length - (intOf s118).toNat)
        case atStart => exact ⟨0, rfl, by omega, rfl, rfl, HB, HK, HM⟩
        case round =>
          clear HB HK HM k0 k1 k2 k3 k4 k5 m0 m1 m2 kf0 kf1 kf2 kf3 kf4 kf5 mf0 mf1 mf2
          obtain ⟨u, rfl, hu, rfl, rfl, HB, HK, HM⟩ := hrel
          obtain ⟨k0, k1, k2, k3, k4, k5, kf0, kf1, kf2, kf3, kf4, kf5⟩ := HK.out.c6
          obtain ⟨m0, m1, m2, mf0, mf1, mf2⟩ := HM.out.c3
          by_cases hlt : u < X.wv.length
          · have hlt1 : (u : Int) < (X.wv.length : Int) := by omega
            have hun : IntKind.i64.wrap ((u : Int) + 1) = (u : Int) + 1 := IntWalk.i64_in _ (by omega)
            obtain ⟨y0, y1⟩ := PtC.below HC.out HB.out HBb.out u hlt
            have hbr : b < wr.heap.size := Nat.lt_of_lt_of_le HBb.out HB.out.size
            have hl1 : loY X.wv (u + 1) = min (loY X.wv u) (pY X.wv u) := rfl
            have hh1 : hiY X.wv (u + 1) = max (hiY X.wv u) (pY X.wv u) := rfl
            have HL1 := Lib.hid hl1; clear hl1
            have HH1 := Lib.hid hh1; clear hh1
            generalize pX X.wv u = x9 at *
            go_upto_region 11 with fail
            go_region
            go_wp2_with fail
            go_roundw
            case rel => exact ⟨u + 1, by first | rfl | simp, by omega, by rw [HL1.out], by rw [HH1.out], Lib.hid (HB.out.alloc HB.out.size _).drew, Lib.hid (HK.out.alloc _).drew, Lib.hid (HM.out.alloc _).drew⟩
            case measure => first | (simp [intOf]; done) | (simp [intOf]; omega)
          · have hlt1 : ¬ (u : Int) < (X.wv.length : Int) := by omega
            obtain rfl : u = X.wv.length := by omega
            clear hlt
            go_wp2_with (first | (with_reducible refine ((HV1.out _).mono ?_); rintro e w' ⟨rfl, hb⟩; replace HK := Lib.hid (HK.out.keep hb); clear k0 k1 k2 k3 k4 k5 kf0 kf1 kf2 kf3 kf4 kf5; replace HM := Lib.hid (HM.out.keep hb); clear m0 m1 m2 mf0 mf1 mf2; replace HB := Lib.hid (bch' HB.out hb); clear hb; obtain ⟨k0, k1, k2, k3, k4, k5, kf0, kf1, kf2, kf3, kf4, kf5⟩ := HK.out.c6; obtain ⟨m0, m1, m2, mf0, mf1, mf2⟩ := HM.out.c3) | (with_reducible refine ((HV2.out _).mono ?_); rintro e w' ⟨rfl, hb⟩; replace HK := Lib.hid (HK.out.keep hb); clear k0 k1 k2 k3 k4 k5 kf0 kf1 kf2 kf3 kf4 kf5; replace HM := Lib.hid (HM.out.keep hb); clear m0 m1 m2 mf0 mf1 mf2; replace HB := Lib.hid (bch' HB.out hb); clear hb; obtain ⟨k0, k1, k2, k3, k4, k5, kf0, kf1, kf2, kf3, kf4, kf5⟩ := HK.out.c6; obtain ⟨m0, m1, m2, mf0, mf1, mf2⟩ := HM.out.c3) | (with_reducible refine ((HO1.out _).mono ?_); rintro e w' ⟨rfl, hb⟩; replace HK := Lib.hid (HK.out.keep hb); clear k0 k1 k2 k3 k4 k5 kf0 kf1 kf2 kf3 kf4 kf5; replace HM := Lib.hid (HM.out.keep hb); clear m0 m1 m2 mf0 mf1 mf2; replace HB := Lib.hid (bch' HB.out hb); clear hb; obtain ⟨k0, k1, k2, k3, k4, k5, kf0, kf1, kf2, kf3, kf4, kf5⟩ := HK.out.c6; obtain ⟨m0, m1, m2, mf0, mf1, mf2⟩ := HM.out.c3) | (with_reducible refine ((HO2.out _).mono ?_); rintro e w' ⟨rfl, hb⟩; replace HK := Lib.hid (HK.out.keep hb); clear k0 k1 k2 k3 k4 k5 kf0 kf1 kf2 kf3 kf4 kf5; replace HM := Lib.hid (HM.out.keep hb); clear m0 m1 m2 mf0 mf1 mf2; replace HB := Lib.hid (bch' HB.out hb); clear hb; obtain ⟨k0, k1, k2, k3, k4, k5, kf0, kf1, kf2, kf3, kf4, kf5⟩ := HK.out.c6; obtain ⟨m0, m1, m2, mf0, mf1, mf2⟩ := HM.out.c3) | (with_reducible refine ((HAW.out _ (ENV.out.below HB.out)).mono ?_); rintro e w' ⟨rfl, hb⟩; replace HK := Lib.hid (HK.out.keep hb); clear k0 k1 k2 k3 k4 k5 kf0 kf1 kf2 kf3 kf4 kf5; replace HM := Lib.hid (HM.out.keep hb); clear m0 m1 m2 mf0 mf1 mf2; replace HB := Lib.hid (bch' HB.out hb); clear hb; obtain ⟨k0, k1, k2, k3, k4, k5, kf0, kf1, kf2, kf3, kf4, kf5⟩ := HK.out.c6; obtain ⟨m0, m1, m2, mf0, mf1, mf2⟩ := HM.out.c3))
            go_ret
            exact ⟨rfl, HB.out⟩
      · rw [show rdB (at_ + 100 * X.pe * (n % 8)) = false from by have := mt (rdB_iff (at_ + 100 * X.pe * (n % 8))).1 hr2; simpa using this] at hrd2
        clear hz ho hw
        clear hv hop
        have HAW := Lib.hid haw; clear haw
        have HEF := Lib.hid hef; clear hef
        have HRD := Lib.hid hrd; clear hrd
        have HRD2 := Lib.hid hrd2; clear hrd2
        obtain ⟨k0, k1, k2, k3, k4, k5, kf0, kf1, kf2, kf3, kf4, kf5⟩ := HK.out.c6
        obtain ⟨m0, m1, m2, mf0, mf1, mf2⟩ := HM.out.c3
        go_enter Tryz.func4, Tryz.ntmps4
        go_wp2_with (first | (with_reducible refine ((HEF.out _ HV.out).mono ?_); rintro e w' ⟨rfl, hb⟩; replace HK := Lib.hid (HK.out.keep hb); clear k0 k1 k2 k3 k4 k5 kf0 kf1 kf2 kf3 kf4 kf5; replace HM := Lib.hid (HM.out.keep hb); clear m0 m1 m2 mf0 mf1 mf2; replace HV := Lib.hid (PtsAt.below HV.out hb); replace HB := Lib.hid (bch' HB.out hb); clear hb; obtain ⟨k0, k1, k2, k3, k4, k5, kf0, kf1, kf2, kf3, kf4, kf5⟩ := HK.out.c6; obtain ⟨m0, m1, m2, mf0, mf1, mf2⟩ := HM.out.c3) | (with_reducible refine ((HAW.out _ (ENV.out.below HB.out)).mono ?_); rintro e w' ⟨rfl, hb⟩; replace HK := Lib.hid (HK.out.keep hb); clear k0 k1 k2 k3 k4 k5 kf0 kf1 kf2 kf3 kf4 kf5; replace HM := Lib.hid (HM.out.keep hb); clear m0 m1 m2 mf0 mf1 mf2; replace HV := Lib.hid (PtsAt.below HV.out hb); replace HB := Lib.hid (bch' HB.out hb); clear hb; obtain ⟨k0, k1, k2, k3, k4, k5, kf0, kf1, kf2, kf3, kf4, kf5⟩ := HK.out.c6; obtain ⟨m0, m1, m2, mf0, mf1, mf2⟩ := HM.out.c3) | (with_reducible refine ((HRD.out _).mono ?_); rintro e w' ⟨rfl, rfl⟩) | (with_reducible refine ((HRD2.out _).mono ?_); rintro e w' ⟨rfl, rfl⟩))
        go_ret
        exact ⟨rfl, HB.out⟩
    · rw [hz] at hef
      rw [show rdB at_ = false from by have := mt (rdB_iff at_).1 hr; simpa using this] at hrd
      clear hv hop
      have HAW := Lib.hid haw; clear haw
      have HEF := Lib.hid hef; clear hef
      have HRD := Lib.hid hrd; clear hrd
      obtain ⟨k0, k1, k2, k3, k4, k5, kf0, kf1, kf2, kf3, kf4, kf5⟩ := HK.out.c6
      obtain ⟨m0, m1, m2, mf0, mf1, mf2⟩ := HM.out.c3
      go_enter Tryz.func4, Tryz.ntmps4
      go_wp2_with (first | (with_reducible refine ((HEF.out _ HV.out).mono ?_); rintro e w' ⟨rfl, hb⟩; replace HK := Lib.hid (HK.out.keep hb); clear k0 k1 k2 k3 k4 k5 kf0 kf1 kf2 kf3 kf4 kf5; replace HM := Lib.hid (HM.out.keep hb); clear m0 m1 m2 mf0 mf1 mf2; replace HV := Lib.hid (PtsAt.below HV.out hb); replace HB := Lib.hid (bch' HB.out hb); clear hb; obtain ⟨k0, k1, k2, k3, k4, k5, kf0, kf1, kf2, kf3, kf4, kf5⟩ := HK.out.c6; obtain ⟨m0, m1, m2, mf0, mf1, mf2⟩ := HM.out.c3) | (with_reducible refine ((HAW.out _ (ENV.out.below HB.out)).mono ?_); rintro e w' ⟨rfl, hb⟩; replace HK := Lib.hid (HK.out.keep hb); clear k0 k1 k2 k3 k4 k5 kf0 kf1 kf2 kf3 kf4 kf5; replace HM := Lib.hid (HM.out.keep hb); clear m0 m1 m2 mf0 mf1 mf2; replace HV := Lib.hid (PtsAt.below HV.out hb); replace HB := Lib.hid (bch' HB.out hb); clear hb; obtain ⟨k0, k1, k2, k3, k4, k5, kf0, kf1, kf2, kf3, kf4, kf5⟩ := HK.out.c6; obtain ⟨m0, m1, m2, mf0, mf1, mf2⟩ := HM.out.c3) | (with_reducible refine ((HRD.out _).mono ?_); rintro e w' ⟨rfl, rfl⟩))
      go_ret
      exact ⟨rfl, HB.out⟩
  · have hne : ((efE X : Int) != 0) = true := by simpa using hz
    generalize efE X = m9 at *
    clear hv hop
    have HAW := Lib.hid haw; clear haw
    have HEF := Lib.hid hef; clear hef
    have HRD := Lib.hid hrd; clear hrd
    obtain ⟨k0, k1, k2, k3, k4, k5, kf0, kf1, kf2, kf3, kf4, kf5⟩ := HK.out.c6
    obtain ⟨m0, m1, m2, mf0, mf1, mf2⟩ := HM.out.c3
    go_enter Tryz.func4, Tryz.ntmps4
    go_wp2_with (first | (with_reducible refine ((HEF.out _ HV.out).mono ?_); rintro e w' ⟨rfl, hb⟩; replace HK := Lib.hid (HK.out.keep hb); clear k0 k1 k2 k3 k4 k5 kf0 kf1 kf2 kf3 kf4 kf5; replace HM := Lib.hid (HM.out.keep hb); clear m0 m1 m2 mf0 mf1 mf2; replace HV := Lib.hid (PtsAt.below HV.out hb); replace HB := Lib.hid (bch' HB.out hb); clear hb; obtain ⟨k0, k1, k2, k3, k4, k5, kf0, kf1, kf2, kf3, kf4, kf5⟩ := HK.out.c6; obtain ⟨m0, m1, m2, mf0, mf1, mf2⟩ := HM.out.c3) | (with_reducible refine ((HAW.out _ (ENV.out.below HB.out)).mono ?_); rintro e w' ⟨rfl, hb⟩; replace HK := Lib.hid (HK.out.keep hb); clear k0 k1 k2 k3 k4 k5 kf0 kf1 kf2 kf3 kf4 kf5; replace HM := Lib.hid (HM.out.keep hb); clear m0 m1 m2 mf0 mf1 mf2; replace HV := Lib.hid (PtsAt.below HV.out hb); replace HB := Lib.hid (bch' HB.out hb); clear hb; obtain ⟨k0, k1, k2, k3, k4, k5, kf0, kf1, kf2, kf3, kf4, kf5⟩ := HK.out.c6; obtain ⟨m0, m1, m2, mf0, mf1, mf2⟩ := HM.out.c3) | (with_reducible refine ((HRD.out _).mono ?_); rintro e w' ⟨rfl, rfl⟩))
    go_ret
    exact ⟨rfl, HB.out⟩
end Go.Proofs.YtbamcfhmkohbmaaGreatDoor
