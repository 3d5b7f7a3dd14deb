/-
  Layer 28: the law EffectSpreads.
-/
import Derived.Test.YtbamcfhmkohbmaaGreatDoorYk
import Derived.Test.YtbamcfhmkohbmaaGreatDoorYg
set_option linter.unusedVariables false
set_option linter.unusedSimpArgs false
namespace Go.Proofs.YtbamcfhmkohbmaaGreatDoor
open Go.RowKit Go.Shelf Lum
open Go.Lib (decDigits itoa)
attribute [local go_sem] bs_get bs_extract_end bs_extract_from bs_extract bs_append

set_option maxRecDepth 100000 in
set_option maxHeartbeats 8000000 in
theorem law_spreads (x : Efx × Sl3) (i k at_ : Int) (w : World) (hv : PtsAt w (.slice x.2.1 x.2.2.1 x.2.2.2) x.1.wv) (hi : (-9223372036854775808 ≤ i ∧ i ≤ 9223372036854775807)) (hk : (-9223372036854775808 ≤ k ∧ k ≤ 9223372036854775807)) (ha : (-9223372036854775808 ≤ at_ ∧ at_ ≤ 9223372036854775807)) (env : Env w) :
    Calls Tryz.prog 5 #[.agg #[.int .i64 (x.1.nu), .int .i64 (x.1.at_), .slice x.2.1 x.2.2.1 x.2.2.2, .int .i64 (x.1.pe), .int .i64 (x.1.sp), .int .i64 (x.1.sz)], .agg #[.int .i64 i, .int .i64 k, .int .i64 at_]] w fun e w' => e = .returned (.bool (true)) ∧ Below w.heap.size w w' := by
  have ENV := Lib.hid env; clear env
  have hal := ((Below.refl w.heap.size w).alloc (Nat.le_refl _) (.cells #[.int .i64 (x.1.nu), .int .i64 (x.1.at_), .slice x.2.1 x.2.2.1 x.2.2.2, .int .i64 (x.1.pe), .int .i64 (x.1.sp), .int .i64 (x.1.sz)] 36)).alloc (by simp) (.cells #[.int .i64 i, .int .i64 k, .int .i64 at_] 38)
  have HV := Lib.hid (PtsAt.below hv hal); have HB := Lib.hid hal; clear hal
  have HK := Lib.hid ((Blk.new w 36 #[.int .i64 (x.1.nu), .int .i64 (x.1.at_), .slice x.2.1 x.2.2.1 x.2.2.2, .int .i64 (x.1.pe), .int .i64 (x.1.sp), .int .i64 (x.1.sz)]).alloc (.cells #[.int .i64 i, .int .i64 k, .int .i64 at_] 38))
  have hA := Blk.new (w.alloc (.cells #[.int .i64 (x.1.nu), .int .i64 (x.1.at_), .slice x.2.1 x.2.2.1 x.2.2.2, .int .i64 (x.1.pe), .int .i64 (x.1.sp), .int .i64 (x.1.sz)] 36)) 38 #[.int .i64 i, .int .i64 k, .int .i64 at_]
  rw [World.size_alloc] at hA
  have HM := Lib.hid hA; clear hA
  obtain ⟨k0, k1, k2, k3, k4, k5, kf0, kf1, kf2, kf3, kf4, kf5⟩ := HK.out.c6
  obtain ⟨m0, m1, m2, mf0, mf1, mf2⟩ := HM.out.c3
  have haw := fun W (e : Env W) => l28_awake W e
  have hef := fun W (h : PtsAt W (.slice x.2.1 x.2.2.1 x.2.2.2) x.1.wv) => r28_effect x.1.nu x.1.at_ x.1.pe x.1.sp x.1.sz x.1.wv x.2.1 x.2.2.1 x.2.2.2 W h
  change ∀ W, PtsAt W (.slice x.2.1 x.2.2.1 x.2.2.2) x.1.wv → Calls _ _ _ _ (fun e w' => e = .returned (.int .i64 (efE x.1)) ∧ _) at hef
  have hrd := fun W => r23_reading at_ W
  by_cases hz : efE x.1 = 0
  · by_cases o0 : k < 1
    · rw [hz] at hef
      clear hv
      have HAW := Lib.hid haw; clear haw
      have HEF := Lib.hid hef; clear hef
      have HRD := Lib.hid hrd; clear hrd
      go_enter Tryz.func5, Tryz.ntmps5
      go_wp2_with (first | (with_reducible refine ((HEF.out _ HV.out).mono ?_); rintro e w' ⟨rfl, hb⟩; replace HK := Lib.hid (HK.out.keep hb); clear k0 k1 k2 k3 k4 k5 kf0 kf1 kf2 kf3 kf4 kf5; replace HM := Lib.hid (HM.out.keep hb); clear m0 m1 m2 mf0 mf1 mf2; replace HV := Lib.hid (PtsAt.below HV.out hb); replace HB := Lib.hid (bch' HB.out hb); clear hb; obtain ⟨k0, k1, k2, k3, k4, k5, kf0, kf1, kf2, kf3, kf4, kf5⟩ := HK.out.c6; obtain ⟨m0, m1, m2, mf0, mf1, mf2⟩ := HM.out.c3) | (with_reducible refine ((HAW.out _ (ENV.out.below HB.out)).mono ?_); rintro e w' ⟨rfl, hb⟩; replace HK := Lib.hid (HK.out.keep hb); clear k0 k1 k2 k3 k4 k5 kf0 kf1 kf2 kf3 kf4 kf5; replace HM := Lib.hid (HM.out.keep hb); clear m0 m1 m2 mf0 mf1 mf2; replace HV := Lib.hid (PtsAt.below HV.out hb); replace HB := Lib.hid (bch' HB.out hb); clear hb; obtain ⟨k0, k1, k2, k3, k4, k5, kf0, kf1, kf2, kf3, kf4, kf5⟩ := HK.out.c6; obtain ⟨m0, m1, m2, mf0, mf1, mf2⟩ := HM.out.c3) | (with_reducible refine ((HRD.out _).mono ?_); rintro e w' ⟨rfl, rfl⟩))
      go_ret
      exact ⟨rfl, HB.out⟩
    by_cases o1 : 20 < k
    · rw [hz] at hef
      clear hv
      have HAW := Lib.hid haw; clear haw
      have HEF := Lib.hid hef; clear hef
      have HRD := Lib.hid hrd; clear hrd
      go_enter Tryz.func5, Tryz.ntmps5
      go_wp2_with (first | (with_reducible refine ((HEF.out _ HV.out).mono ?_); rintro e w' ⟨rfl, hb⟩; replace HK := Lib.hid (HK.out.keep hb); clear k0 k1 k2 k3 k4 k5 kf0 kf1 kf2 kf3 kf4 kf5; replace HM := Lib.hid (HM.out.keep hb); clear m0 m1 m2 mf0 mf1 mf2; replace HV := Lib.hid (PtsAt.below HV.out hb); replace HB := Lib.hid (bch' HB.out hb); clear hb; obtain ⟨k0, k1, k2, k3, k4, k5, kf0, kf1, kf2, kf3, kf4, kf5⟩ := HK.out.c6; obtain ⟨m0, m1, m2, mf0, mf1, mf2⟩ := HM.out.c3) | (with_reducible refine ((HAW.out _ (ENV.out.below HB.out)).mono ?_); rintro e w' ⟨rfl, hb⟩; replace HK := Lib.hid (HK.out.keep hb); clear k0 k1 k2 k3 k4 k5 kf0 kf1 kf2 kf3 kf4 kf5; replace HM := Lib.hid (HM.out.keep hb); clear m0 m1 m2 mf0 mf1 mf2; replace HV := Lib.hid (PtsAt.below HV.out hb); replace HB := Lib.hid (bch' HB.out hb); clear hb; obtain ⟨k0, k1, k2, k3, k4, k5, kf0, kf1, kf2, kf3, kf4, kf5⟩ := HK.out.c6; obtain ⟨m0, m1, m2, mf0, mf1, mf2⟩ := HM.out.c3) | (with_reducible refine ((HRD.out _).mono ?_); rintro e w' ⟨rfl, rfl⟩))
      go_ret
      exact ⟨rfl, HB.out⟩
    by_cases o2 : i < 0
    · rw [hz] at hef
      clear hv
      have HAW := Lib.hid haw; clear haw
      have HEF := Lib.hid hef; clear hef
      have HRD := Lib.hid hrd; clear hrd
      go_enter Tryz.func5, Tryz.ntmps5
      go_wp2_with (first | (with_reducible refine ((HEF.out _ HV.out).mono ?_); rintro e w' ⟨rfl, hb⟩; replace HK := Lib.hid (HK.out.keep hb); clear k0 k1 k2 k3 k4 k5 kf0 kf1 kf2 kf3 kf4 kf5; replace HM := Lib.hid (HM.out.keep hb); clear m0 m1 m2 mf0 mf1 mf2; replace HV := Lib.hid (PtsAt.below HV.out hb); replace HB := Lib.hid (bch' HB.out hb); clear hb; obtain ⟨k0, k1, k2, k3, k4, k5, kf0, kf1, kf2, kf3, kf4, kf5⟩ := HK.out.c6; obtain ⟨m0, m1, m2, mf0, mf1, mf2⟩ := HM.out.c3) | (with_reducible refine ((HAW.out _ (ENV.out.below HB.out)).mono ?_); rintro e w' ⟨rfl, hb⟩; replace HK := Lib.hid (HK.out.keep hb); clear k0 k1 k2 k3 k4 k5 kf0 kf1 kf2 kf3 kf4 kf5; replace HM := Lib.hid (HM.out.keep hb); clear m0 m1 m2 mf0 mf1 mf2; replace HV := Lib.hid (PtsAt.below HV.out hb); replace HB := Lib.hid (bch' HB.out hb); clear hb; obtain ⟨k0, k1, k2, k3, k4, k5, kf0, kf1, kf2, kf3, kf4, kf5⟩ := HK.out.c6; obtain ⟨m0, m1, m2, mf0, mf1, mf2⟩ := HM.out.c3) | (with_reducible refine ((HRD.out _).mono ?_); rintro e w' ⟨rfl, rfl⟩))
      go_ret
      exact ⟨rfl, HB.out⟩
    by_cases o3 : k ≤ i
    · rw [hz] at hef
      clear hv
      have HAW := Lib.hid haw; clear haw
      have HEF := Lib.hid hef; clear hef
      have HRD := Lib.hid hrd; clear hrd
      go_enter Tryz.func5, Tryz.ntmps5
      go_wp2_with (first | (with_reducible refine ((HEF.out _ HV.out).mono ?_); rintro e w' ⟨rfl, hb⟩; replace HK := Lib.hid (HK.out.keep hb); clear k0 k1 k2 k3 k4 k5 kf0 kf1 kf2 kf3 kf4 kf5; replace HM := Lib.hid (HM.out.keep hb); clear m0 m1 m2 mf0 mf1 mf2; replace HV := Lib.hid (PtsAt.below HV.out hb); replace HB := Lib.hid (bch' HB.out hb); clear hb; obtain ⟨k0, k1, k2, k3, k4, k5, kf0, kf1, kf2, kf3, kf4, kf5⟩ := HK.out.c6; obtain ⟨m0, m1, m2, mf0, mf1, mf2⟩ := HM.out.c3) | (with_reducible refine ((HAW.out _ (ENV.out.below HB.out)).mono ?_); rintro e w' ⟨rfl, hb⟩; replace HK := Lib.hid (HK.out.keep hb); clear k0 k1 k2 k3 k4 k5 kf0 kf1 kf2 kf3 kf4 kf5; replace HM := Lib.hid (HM.out.keep hb); clear m0 m1 m2 mf0 mf1 mf2; replace HV := Lib.hid (PtsAt.below HV.out hb); replace HB := Lib.hid (bch' HB.out hb); clear hb; obtain ⟨k0, k1, k2, k3, k4, k5, kf0, kf1, kf2, kf3, kf4, kf5⟩ := HK.out.c6; obtain ⟨m0, m1, m2, mf0, mf1, mf2⟩ := HM.out.c3) | (with_reducible refine ((HRD.out _).mono ?_); rintro e w' ⟨rfl, rfl⟩))
      go_ret
      exact ⟨rfl, HB.out⟩
    by_cases hr : 0 ≤ at_ ∧ at_ ≤ 8000000000
    · have ho := efOk hz
      have hpe := ho.pe; have hsp := ho.sp
      have a0 : 0 ≤ x.1.sp * i := Int.mul_nonneg hsp.1 (by omega)
      have a1 : x.1.sp * i ≤ 1000 * 20 := Int.mul_le_mul hsp.2 (by omega) (by omega) (by omega)
      have b0 : 0 ≤ x.1.sp * i * x.1.pe := Int.mul_nonneg a0 (by omega)
      have b1 : x.1.sp * i * x.1.pe ≤ 20000 * 10000000 := Int.mul_le_mul (by omega) hpe.2 (by omega) (by omega)
      have w1 : IntKind.i64.wrap (x.1.sp * i) = x.1.sp * i := IntWalk.i64_in _ (by omega)
      have w2 : IntKind.i64.wrap (x.1.sp * i * x.1.pe) = x.1.sp * i * x.1.pe := IntWalk.i64_in _ (by omega)
      have w3 : IntKind.i64.wrap (10 * k) = 10 * k := IntWalk.i64_in _ (by omega)
      have hk0 : ¬ k = 0 := by omega
      have hk1 : ¬ 10 * k = 0 := by omega
      have hk2 : ((10 * k : Int) == 0) = false := by rw [beq_eq_false_iff_ne]; omega
      obtain ⟨m, hm⟩ : ∃ m, m = x.1.sp * i * x.1.pe % (10 * k) := ⟨_, rfl⟩
      obtain ⟨q, hq⟩ : ∃ q, q = x.1.sp * i * x.1.pe / (10 * k) := ⟨_, rfl⟩
      have m0 : 0 ≤ m := by rw [hm]; exact Int.emod_nonneg _ hk1
      have m1 : m < 10 * k := by rw [hm]; exact Int.emod_lt_of_pos _ (by omega)
      have q0 : 0 ≤ q := by rw [hq]; exact Int.ediv_nonneg b0 (by omega)
      have q1 : q ≤ x.1.sp * i * x.1.pe := by rw [hq]; exact Int.ediv_le_self _ b0
      have t1 : (x.1.sp * i * x.1.pe).tmod (10 * k) = m := by rw [Int.tmod_eq_emod_of_nonneg b0, hm]
      have t2 : (x.1.sp * i * x.1.pe).tdiv (10 * k) = q := by rw [Int.tdiv_eq_ediv_of_nonneg b0, hq]
      have t3 : x.1.sp * i * x.1.pe % (10 * k) = m := hm.symm
      have t4 : x.1.sp * i * x.1.pe / (10 * k) = q := hq.symm
      have w4 : IntKind.i64.wrap m = m := IntWalk.i64_in _ (by omega)
      have w5 : IntKind.i64.wrap q = q := IntWalk.i64_in _ (by omega)
      have w6 : IntKind.i64.wrap (at_ + q) = at_ + q := IntWalk.i64_in _ (by omega)
      have hrd2 := fun W => r23_reading (at_ + q) W
      have hob : ofB i k at_ := by unfold ofB; omega
      rw [hz] at hef
      rw [show rdB at_ = true from (rdB_iff at_).2 hr] at hrd
      by_cases h0 : m = 0
      · by_cases hr2 : 0 ≤ at_ + q ∧ at_ + q ≤ 8000000000
        · rw [show rdB (at_ + q) = true from (rdB_iff _).2 hr2] at hrd2
          have hoc : ofB 0 k (at_ + q) := by unfold ofB; omega
          have hoa := fun W (h : PtsAt W (.slice x.2.1 x.2.2.1 x.2.2.2) x.1.wv) (e : Env W) => own_eOffset x i k at_ W h e
          rw [ofsT_ok hz hob] at hoa
          have hoz := fun W (h : PtsAt W (.slice x.2.1 x.2.2.1 x.2.2.2) x.1.wv) (e : Env W) => own_eOffset x 0 k (at_ + q) W h e
          rw [ofsT_ok hz hoc, show offQ x.1 0 k (at_ + q) = offQ x.1 i k at_ by rw [hq]; exact offQ_later ho at_ (by omega) (by rw [← hm, h0])] at hoz
          dsimp only at hoa hoz
          generalize showR (offQ x.1 i k at_) = z9 at *
          subst h0
          clear hv hz hob hoc ho hm hq
          have HAW := Lib.hid haw; clear haw
          have HEF := Lib.hid hef; clear hef
          have HRD := Lib.hid hrd; clear hrd
          have HRD2 := Lib.hid hrd2; clear hrd2
          have HOA := Lib.hid hoa; clear hoa
          have HOZ := Lib.hid hoz; clear hoz
          go_enter Tryz.func5, Tryz.ntmps5
          go_wp2_with (first | (with_reducible refine ((HEF.out _ HV.out).mono ?_); rintro e w' ⟨rfl, hb⟩; replace HK := Lib.hid (HK.out.keep hb); clear k0 k1 k2 k3 k4 k5 kf0 kf1 kf2 kf3 kf4 kf5; replace HM := Lib.hid (HM.out.keep hb); clear m0 m1 m2 mf0 mf1 mf2; replace HV := Lib.hid (PtsAt.below HV.out hb); replace HB := Lib.hid (bch' HB.out hb); clear hb; obtain ⟨k0, k1, k2, k3, k4, k5, kf0, kf1, kf2, kf3, kf4, kf5⟩ := HK.out.c6; obtain ⟨m0, m1, m2, mf0, mf1, mf2⟩ := HM.out.c3) | (with_reducible refine ((HRD.out _).mono ?_); rintro e w' ⟨rfl, rfl⟩))
          have f1 := fun p : BelowOf _ => (HM.out.keep p.h).c3.2.1
          have f2 := fun p : BelowOf _ => (HM.out.keep p.h).c3.2.2.1
          refine wp_region_WQ (by kernel_rfl) (by kernel_rfl) ?_
          repeat (refine WQ.step (fun K hK => ?_); go_simp; first | (refine hK.out _ ?_; clear hK K) | (apply Exists.intro; refine ⟨fun _ => ?_, hK.out _ ?_⟩; (first | rfl | (go_at_call 21; exact calls_below_same _ (HRD2.out _))); clear hK K))
          refine WQ.nil ?_
          intro _ hw'
          obtain ⟨⟨wq, hbq⟩, hw2⟩ := hw'
          subst hw2
          replace HK := Lib.hid (HK.out.keep hbq)
          replace HM := Lib.hid (HM.out.keep hbq)
          replace HV := Lib.hid (PtsAt.below HV.out hbq)
          replace HB := Lib.hid (bch' HB.out hbq)
          clear f1 f2
          clear k0 k1 k2 k3 k4 k5 kf0 kf1 kf2 kf3 kf4 kf5
          clear m0 m1 m2 mf0 mf1 mf2
          obtain ⟨k0, k1, k2, k3, k4, k5, kf0, kf1, kf2, kf3, kf4, kf5⟩ := HK.out.c6
          obtain ⟨m0, m1, m2, mf0, mf1, mf2⟩ := HM.out.c3
          clear HRD2
          go_wp2_with (first | (with_reducible refine ((HOA.out _ HV.out (ENV.out.below HB.out)).mono ?_); rintro e w' ⟨rfl, hb⟩; replace HK := Lib.hid (HK.out.keep hb); clear k0 k1 k2 k3 k4 k5 kf0 kf1 kf2 kf3 kf4 kf5; replace HM := Lib.hid (HM.out.keep hb); clear m0 m1 m2 mf0 mf1 mf2; replace HV := Lib.hid (PtsAt.below HV.out hb); replace HB := Lib.hid (bch' HB.out hb); clear hb; obtain ⟨k0, k1, k2, k3, k4, k5, kf0, kf1, kf2, kf3, kf4, kf5⟩ := HK.out.c6; obtain ⟨m0, m1, m2, mf0, mf1, mf2⟩ := HM.out.c3))
          have f0 := fun p : BelowOf _ => (HK.out.keep p.h).c6.1
          have f1 := fun p : BelowOf _ => (HK.out.keep p.h).c6.2.1
          have f2 := fun p : BelowOf _ => (HK.out.keep p.h).c6.2.2.1
          have f3 := fun p : BelowOf _ => (HK.out.keep p.h).c6.2.2.2.1
          have f4 := fun p : BelowOf _ => (HK.out.keep p.h).c6.2.2.2.2.1
          have f5 := fun p : BelowOf _ => (HK.out.keep p.h).c6.2.2.2.2.2.1
          have g1 := fun p : BelowOf _ => (HM.out.keep p.h).c3.2.1
          have g2 := fun p : BelowOf _ => (HM.out.keep p.h).c3.2.2.1
          refine wp_region_WQ (by kernel_rfl) (by kernel_rfl) ?_
          repeat (refine WQ.step (fun K hK => ?_); go_simp; first | (refine hK.out _ ?_; clear hK K) | (apply Exists.intro; refine ⟨fun _ => ?_, hK.out _ ?_⟩; (first | rfl | (go_at_call 23; exact calls_below_of _ (HOZ.out _ (PtsAt.below HV.out (BelowOf.h _)) (ENV.out.below (bch' HB.out (BelowOf.h _)))))); clear hK K))
          refine WQ.nil ?_
          intro _ hw'
          obtain ⟨⟨wq, hbq⟩, hw2⟩ := hw'
          subst hw2
          replace HK := Lib.hid (HK.out.keep hbq)
          replace HM := Lib.hid (HM.out.keep hbq)
          replace HV := Lib.hid (PtsAt.below HV.out hbq)
          replace HB := Lib.hid (bch' HB.out hbq)
          clear f0 f1 f2 f3 f4 f5 g1 g2
          clear k0 k1 k2 k3 k4 k5 kf0 kf1 kf2 kf3 kf4 kf5
          clear m0 m1 m2 mf0 mf1 mf2
          obtain ⟨k0, k1, k2, k3, k4, k5, kf0, kf1, kf2, kf3, kf4, kf5⟩ := HK.out.c6
          obtain ⟨m0, m1, m2, mf0, mf1, mf2⟩ := HM.out.c3
          go_wp2_with (first | (with_reducible refine ((HAW.out _ (ENV.out.below HB.out)).mono ?_); rintro e w' ⟨rfl, hb⟩; replace HK := Lib.hid (HK.out.keep hb); clear k0 k1 k2 k3 k4 k5 kf0 kf1 kf2 kf3 kf4 kf5; replace HM := Lib.hid (HM.out.keep hb); clear m0 m1 m2 mf0 mf1 mf2; replace HV := Lib.hid (PtsAt.below HV.out hb); replace HB := Lib.hid (bch' HB.out hb); clear hb; obtain ⟨k0, k1, k2, k3, k4, k5, kf0, kf1, kf2, kf3, kf4, kf5⟩ := HK.out.c6; obtain ⟨m0, m1, m2, mf0, mf1, mf2⟩ := HM.out.c3))
          go_ret
          exact ⟨rfl, HB.out⟩
        · rw [show rdB (at_ + q) = false from by have := mt (rdB_iff (at_ + q)).1 hr2; simpa using this] at hrd2
          subst h0
          clear hv hz hob ho hm hq
          have HAW := Lib.hid haw; clear haw
          have HEF := Lib.hid hef; clear hef
          have HRD := Lib.hid hrd; clear hrd
          have HRD2 := Lib.hid hrd2; clear hrd2
          go_enter Tryz.func5, Tryz.ntmps5
          go_wp2_with (first | (with_reducible refine ((HEF.out _ HV.out).mono ?_); rintro e w' ⟨rfl, hb⟩; replace HK := Lib.hid (HK.out.keep hb); clear k0 k1 k2 k3 k4 k5 kf0 kf1 kf2 kf3 kf4 kf5; replace HM := Lib.hid (HM.out.keep hb); clear m0 m1 m2 mf0 mf1 mf2; replace HV := Lib.hid (PtsAt.below HV.out hb); replace HB := Lib.hid (bch' HB.out hb); clear hb; obtain ⟨k0, k1, k2, k3, k4, k5, kf0, kf1, kf2, kf3, kf4, kf5⟩ := HK.out.c6; obtain ⟨m0, m1, m2, mf0, mf1, mf2⟩ := HM.out.c3) | (with_reducible refine ((HRD.out _).mono ?_); rintro e w' ⟨rfl, rfl⟩))
          have f1 := fun p : BelowOf _ => (HM.out.keep p.h).c3.2.1
          have f2 := fun p : BelowOf _ => (HM.out.keep p.h).c3.2.2.1
          refine wp_region_WQ (by kernel_rfl) (by kernel_rfl) ?_
          repeat (refine WQ.step (fun K hK => ?_); go_simp; first | (refine hK.out _ ?_; clear hK K) | (apply Exists.intro; refine ⟨fun _ => ?_, hK.out _ ?_⟩; (first | rfl | (go_at_call 21; exact calls_below_same _ (HRD2.out _))); clear hK K))
          refine WQ.nil ?_
          intro _ hw'
          obtain ⟨⟨wq, hbq⟩, hw2⟩ := hw'
          subst hw2
          replace HK := Lib.hid (HK.out.keep hbq)
          replace HM := Lib.hid (HM.out.keep hbq)
          replace HV := Lib.hid (PtsAt.below HV.out hbq)
          replace HB := Lib.hid (bch' HB.out hbq)
          clear f1 f2
          clear k0 k1 k2 k3 k4 k5 kf0 kf1 kf2 kf3 kf4 kf5
          clear m0 m1 m2 mf0 mf1 mf2
          obtain ⟨k0, k1, k2, k3, k4, k5, kf0, kf1, kf2, kf3, kf4, kf5⟩ := HK.out.c6
          obtain ⟨m0, m1, m2, mf0, mf1, mf2⟩ := HM.out.c3
          go_wp2_with (first | (with_reducible refine ((HAW.out _ (ENV.out.below HB.out)).mono ?_); rintro e w' ⟨rfl, hb⟩; replace HK := Lib.hid (HK.out.keep hb); clear k0 k1 k2 k3 k4 k5 kf0 kf1 kf2 kf3 kf4 kf5; replace HM := Lib.hid (HM.out.keep hb); clear m0 m1 m2 mf0 mf1 mf2; replace HV := Lib.hid (PtsAt.below HV.out hb); replace HB := Lib.hid (bch' HB.out hb); clear hb; obtain ⟨k0, k1, k2, k3, k4, k5, kf0, kf1, kf2, kf3, kf4, kf5⟩ := HK.out.c6; obtain ⟨m0, m1, m2, mf0, mf1, mf2⟩ := HM.out.c3))
          go_ret
          exact ⟨rfl, HB.out⟩
      · have h0b : ((m : Int) != 0) = true := by simpa using h0
        clear hv hz hob ho hm hq hrd2
        have HAW := Lib.hid haw; clear haw
        have HEF := Lib.hid hef; clear hef
        have HRD := Lib.hid hrd; clear hrd
        go_enter Tryz.func5, Tryz.ntmps5
        go_wp2_with (first | (with_reducible refine ((HEF.out _ HV.out).mono ?_); rintro e w' ⟨rfl, hb⟩; replace HK := Lib.hid (HK.out.keep hb); clear k0 k1 k2 k3 k4 k5 kf0 kf1 kf2 kf3 kf4 kf5; replace HM := Lib.hid (HM.out.keep hb); clear m0 m1 m2 mf0 mf1 mf2; replace HV := Lib.hid (PtsAt.below HV.out hb); replace HB := Lib.hid (bch' HB.out hb); clear hb; obtain ⟨k0, k1, k2, k3, k4, k5, kf0, kf1, kf2, kf3, kf4, kf5⟩ := HK.out.c6; obtain ⟨m0, m1, m2, mf0, mf1, mf2⟩ := HM.out.c3) | (with_reducible refine ((HRD.out _).mono ?_); rintro e w' ⟨rfl, rfl⟩))
        have f1 := fun p : BelowOf _ => (HM.out.keep p.h).c3.2.1
        refine wp_region_WQ (by kernel_rfl) (by kernel_rfl) ?_
        repeat (refine WQ.step (fun K hK => ?_); go_simp; first | (refine hK.out _ ?_; clear hK K) | (apply Exists.intro; refine ⟨fun _ => ?_, hK.out _ ?_⟩; (first | rfl); clear hK K))
        refine WQ.nil ?_
        intro _ hw'
        obtain ⟨⟨wq, hbq⟩, hw2⟩ := hw'
        subst hw2
        replace HK := Lib.hid (HK.out.keep hbq)
        replace HM := Lib.hid (HM.out.keep hbq)
        replace HV := Lib.hid (PtsAt.below HV.out hbq)
        replace HB := Lib.hid (bch' HB.out hbq)
        clear f1
        clear k0 k1 k2 k3 k4 k5 kf0 kf1 kf2 kf3 kf4 kf5
        clear m0 m1 m2 mf0 mf1 mf2
        obtain ⟨k0, k1, k2, k3, k4, k5, kf0, kf1, kf2, kf3, kf4, kf5⟩ := HK.out.c6
        obtain ⟨m0, m1, m2, mf0, mf1, mf2⟩ := HM.out.c3
        go_wp2_with (first | (with_reducible refine ((HAW.out _ (ENV.out.below HB.out)).mono ?_); rintro e w' ⟨rfl, hb⟩; replace HK := Lib.hid (HK.out.keep hb); clear k0 k1 k2 k3 k4 k5 kf0 kf1 kf2 kf3 kf4 kf5; replace HM := Lib.hid (HM.out.keep hb); clear m0 m1 m2 mf0 mf1 mf2; replace HV := Lib.hid (PtsAt.below HV.out hb); replace HB := Lib.hid (bch' HB.out hb); clear hb; obtain ⟨k0, k1, k2, k3, k4, k5, kf0, kf1, kf2, kf3, kf4, kf5⟩ := HK.out.c6; obtain ⟨m0, m1, m2, mf0, mf1, mf2⟩ := HM.out.c3))
        go_ret
        exact ⟨rfl, HB.out⟩
    · rw [hz] at hef
      rw [show rdB at_ = false from by have := mt (rdB_iff at_).1 hr; simpa using this] at hrd
      clear hv
      have HAW := Lib.hid haw; clear haw
      have HEF := Lib.hid hef; clear hef
      have HRD := Lib.hid hrd; clear hrd
      go_enter Tryz.func5, Tryz.ntmps5
      go_wp2_with (first | (with_reducible refine ((HEF.out _ HV.out).mono ?_); rintro e w' ⟨rfl, hb⟩; replace HK := Lib.hid (HK.out.keep hb); clear k0 k1 k2 k3 k4 k5 kf0 kf1 kf2 kf3 kf4 kf5; replace HM := Lib.hid (HM.out.keep hb); clear m0 m1 m2 mf0 mf1 mf2; replace HV := Lib.hid (PtsAt.below HV.out hb); replace HB := Lib.hid (bch' HB.out hb); clear hb; obtain ⟨k0, k1, k2, k3, k4, k5, kf0, kf1, kf2, kf3, kf4, kf5⟩ := HK.out.c6; obtain ⟨m0, m1, m2, mf0, mf1, mf2⟩ := HM.out.c3) | (with_reducible refine ((HAW.out _ (ENV.out.below HB.out)).mono ?_); rintro e w' ⟨rfl, hb⟩; replace HK := Lib.hid (HK.out.keep hb); clear k0 k1 k2 k3 k4 k5 kf0 kf1 kf2 kf3 kf4 kf5; replace HM := Lib.hid (HM.out.keep hb); clear m0 m1 m2 mf0 mf1 mf2; replace HV := Lib.hid (PtsAt.below HV.out hb); replace HB := Lib.hid (bch' HB.out hb); clear hb; obtain ⟨k0, k1, k2, k3, k4, k5, kf0, kf1, kf2, kf3, kf4, kf5⟩ := HK.out.c6; obtain ⟨m0, m1, m2, mf0, mf1, mf2⟩ := HM.out.c3) | (with_reducible refine ((HRD.out _).mono ?_); rintro e w' ⟨rfl, rfl⟩))
      go_ret
      exact ⟨rfl, HB.out⟩
  · have hne : ((efE x.1 : Int) != 0) = true := by simpa using hz
    generalize efE x.1 = m9 at *
    clear hv
    have HAW := Lib.hid haw; clear haw
    have HEF := Lib.hid hef; clear hef
    have HRD := Lib.hid hrd; clear hrd
    go_enter Tryz.func5, Tryz.ntmps5
    go_wp2_with (first | (with_reducible refine ((HEF.out _ HV.out).mono ?_); rintro e w' ⟨rfl, hb⟩; replace HK := Lib.hid (HK.out.keep hb); clear k0 k1 k2 k3 k4 k5 kf0 kf1 kf2 kf3 kf4 kf5; replace HM := Lib.hid (HM.out.keep hb); clear m0 m1 m2 mf0 mf1 mf2; replace HV := Lib.hid (PtsAt.below HV.out hb); replace HB := Lib.hid (bch' HB.out hb); clear hb; obtain ⟨k0, k1, k2, k3, k4, k5, kf0, kf1, kf2, kf3, kf4, kf5⟩ := HK.out.c6; obtain ⟨m0, m1, m2, mf0, mf1, mf2⟩ := HM.out.c3) | (with_reducible refine ((HAW.out _ (ENV.out.below HB.out)).mono ?_); rintro e w' ⟨rfl, hb⟩; replace HK := Lib.hid (HK.out.keep hb); clear k0 k1 k2 k3 k4 k5 kf0 kf1 kf2 kf3 kf4 kf5; replace HM := Lib.hid (HM.out.keep hb); clear m0 m1 m2 mf0 mf1 mf2; replace HV := Lib.hid (PtsAt.below HV.out hb); replace HB := Lib.hid (bch' HB.out hb); clear hb; obtain ⟨k0, k1, k2, k3, k4, k5, kf0, kf1, kf2, kf3, kf4, kf5⟩ := HK.out.c6; obtain ⟨m0, m1, m2, mf0, mf1, mf2⟩ := HM.out.c3) | (with_reducible refine ((HRD.out _).mono ?_); rintro e w' ⟨rfl, rfl⟩))
    go_ret
    exact ⟨rfl, HB.out⟩
end Go.Proofs.YtbamcfhmkohbmaaGreatDoor
