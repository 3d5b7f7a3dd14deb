/-
  Top: the law TopEffectsChase.
-/
import Derived.Test.YtbamcfhmkohbmaaGreatDoorYv
set_option linter.unusedVariables false
set_option linter.unusedSimpArgs false
namespace Lum
open Go Go.RowKit Go.Shelf
open Go.Lib (decDigits itoa)
/-- In a chase a channel has, steps parts of the period later, the offset of a later channel. -/
theorem chase_off {x : Efx} {k q s i : Int} (el : Int) (h : EfOk x) (hs : x.sp = 1000) (hk : 1 ≤ k) (hp : x.pe = k * q) (hs0 : 0 ≤ s) : offQ x i k (el + 100 * (q * s)) = offQ x ((i + s) % k) k el := by
  have hpe := h.pe
  have hq : q ≠ 0 := fun e => by rw [e, Int.mul_zero] at hp; omega
  have c1 := cast_ne (show k ≠ 0 by omega)
  have c2 := cast_ne hq
  have c3 := cast_ne (show x.pe ≠ 0 by omega)
  have hd : i + s = k * ((i + s) / k) + (i + s) % k := (Int.mul_ediv_add_emod _ _).symm
  have e : atQ x i k (el + 100 * (q * s)) = atQ x ((i + s) % k) k el + ((1000 * ((i + s) / k) : Int) : Rat) := by
    generalize (i + s) / k = d at *
    generalize (i + s) % k = m at *
    have hi : i = k * d + m - s := by omega
    unfold atQ
    rw [hs, hi, hp, Rat.divInt_eq_div, Rat.divInt_eq_div, Rat.divInt_eq_div, Rat.divInt_eq_div]
    rw [show (10 * (el + 100 * (q * s)) : Int) = 10 * el + 1000 * q * s by have h9 : 1000 * q * s = 1000 * (q * s) := Int.mul_assoc _ _ _; omega]
    simp only [Rat.intCast_add, Rat.intCast_mul, Rat.intCast_sub]
    generalize ((k : Int) : Rat) = K at *
    generalize ((q : Int) : Rat) = Q at *
    generalize ((s : Int) : Rat) = S at *
    generalize ((d : Int) : Rat) = D at *
    generalize ((m : Int) : Rat) = M at *
    generalize ((el : Int) : Rat) = E at *
    have k1 : K * K⁻¹ = 1 := Rat.mul_inv_cancel _ c1
    have k2 : Q * Q⁻¹ = 1 := Rat.mul_inv_cancel _ c2
    rw [Rat.div_def, Rat.div_def, Rat.div_def, Rat.div_def, Rat.inv_mul_rev K Q]
    grind
  unfold offQ
  rw [hgtW_seg, hgtW_seg, e, place_add]
end Lum
namespace Go.Proofs.YtbamcfhmkohbmaaGreatDoor
open Go.RowKit Go.Shelf Lum
open Go.Lib (decDigits itoa)
attribute [local go_sem] bs_get bs_extract_end bs_extract_from bs_extract bs_append

set_option maxRecDepth 100000 in
set_option maxHeartbeats 8000000 in
theorem law_chase (x : Efx × Sl3) (u0 u1 u2 : Int) (cs : List Int) (p : Option Addr) (c : Nat) (w : World) (hv : PtsAt w (.slice x.2.1 x.2.2.1 x.2.2.2) x.1.wv) (hi : IntsAt w (.slice p cs.length c) cs) (hcap : cs.length ≤ c) (hu0 : 0 ≤ u0 ∧ u0 ≤ 65535) (hu1 : 0 ≤ u1 ∧ u1 ≤ 65535) (hu2 : 0 ≤ u2 ∧ u2 ≤ 65535) (env : Env w) :
    Calls Tryz.prog 12 #[.agg #[.int .i64 (x.1.nu), .int .i64 (x.1.at_), .slice x.2.1 x.2.2.1 x.2.2.2, .int .i64 (x.1.pe), .int .i64 (x.1.sp), .int .i64 (x.1.sz)], .slice p cs.length c, .agg #[.int .u16 u0, .int .u16 u1, .int .u16 u2]] w fun e w' => e = .returned (.bool (true)) ∧ Below w.heap.size w w' := by
  have ENV := Lib.hid env; clear env
  have hal := ((Below.refl w.heap.size w).alloc (Nat.le_refl _) (.cells #[.int .i64 (x.1.nu), .int .i64 (x.1.at_), .slice x.2.1 x.2.2.1 x.2.2.2, .int .i64 (x.1.pe), .int .i64 (x.1.sp), .int .i64 (x.1.sz)] 36)).alloc (by simp) (.cells #[.int .u16 u0, .int .u16 u1, .int .u16 u2] 102)
  have hV0 := PtsAt.below hv hal; have hI0 := IntsAt.below hi hal
  have hK0 := (Blk.new w 36 #[.int .i64 (x.1.nu), .int .i64 (x.1.at_), .slice x.2.1 x.2.2.1 x.2.2.2, .int .i64 (x.1.pe), .int .i64 (x.1.sp), .int .i64 (x.1.sz)]).alloc (.cells #[.int .u16 u0, .int .u16 u1, .int .u16 u2] 102)
  have hA0 := Blk.new (w.alloc (.cells #[.int .i64 (x.1.nu), .int .i64 (x.1.at_), .slice x.2.1 x.2.2.1 x.2.2.2, .int .i64 (x.1.pe), .int .i64 (x.1.sp), .int .i64 (x.1.sz)] 36)) 102 #[.int .u16 u0, .int .u16 u1, .int .u16 u2]
  rw [World.size_alloc] at hA0
  have hK1 := (Blk.new w 36 #[.int .i64 (x.1.nu), .int .i64 (x.1.at_), .slice x.2.1 x.2.2.1 x.2.2.2, .int .i64 (x.1.pe), .int .i64 1000, .int .i64 (x.1.sz)]).alloc (.cells #[.int .u16 u0, .int .u16 u1, .int .u16 u2] 102)
  have hA1 := Blk.new (w.alloc (.cells #[.int .i64 (x.1.nu), .int .i64 (x.1.at_), .slice x.2.1 x.2.2.1 x.2.2.2, .int .i64 (x.1.pe), .int .i64 1000, .int .i64 (x.1.sz)] 36)) 102 #[.int .u16 u0, .int .u16 u1, .int .u16 u2]
  rw [World.size_alloc] at hA1
  have hB1 := ((Below.refl w.heap.size w).alloc (Nat.le_refl _) (.cells #[.int .i64 (x.1.nu), .int .i64 (x.1.at_), .slice x.2.1 x.2.2.1 x.2.2.2, .int .i64 (x.1.pe), .int .i64 1000, .int .i64 (x.1.sz)] 36)).alloc (by simp) (.cells #[.int .u16 u0, .int .u16 u1, .int .u16 u2] 102)
  have hV1 := PtsAt.below hv hB1; have hI1 := IntsAt.below hi hB1
  have HK0 := Lib.hid hK0; have HA0 := Lib.hid hA0
  have HK := Lib.hid hK1; have HA := Lib.hid hA1; have HB := Lib.hid hB1; have HV := Lib.hid hV1; have HI := Lib.hid hI1; clear hal hV0 hI0 hK0 hA0 hK1 hA1 hB1 hV1 hI1
  obtain ⟨x9, hx9⟩ : ∃ x9 : Efx × Sl3, x9 = ((⟨x.1.nu, x.1.at_, x.1.wv, x.1.pe, 1000, x.1.sz⟩ : Efx), x.2) := ⟨_, rfl⟩
  obtain ⟨v0, v1, v2, v3, v4, v5, vf0, vf1, vf2, vf3, vf4, vf5⟩ := HK0.out.c6
  obtain ⟨u_0, u_1, u_2, u_f0, u_f1, u_f2⟩ := HA0.out.c3
  have c0 : IntKind.i64.wrap u0 = u0 := IntWalk.i64_in _ (by omega)
  have c1 : IntKind.i64.wrap u1 = u1 := IntWalk.i64_in _ (by omega)
  have c2 : IntKind.i64.wrap u2 = u2 := IntWalk.i64_in _ (by omega)
  have hte := fun W (e : Env W) => top_tryEffects W e
  have hw0 : wiB u0 0 10000000 = true := (wiB_iff _ _ _).2 (by omega)
  have htr := fun W (h : PtsAt W (.slice x.2.1 x.2.2.1 x.2.2.2) x.1.wv) (h2 : IntsAt W (.slice p cs.length c) cs) => top_tryRun ((⟨x.1.nu, x.1.at_, x.1.wv, x.1.pe, 1000, x.1.sz⟩ : Efx), x.2) u0 cs p c W h h2 hcap
  dsimp only at htr
  rw [hw0, Bool.and_true] at htr
  clear hw0 hx9 x9
  cases ht : trB (⟨x.1.nu, x.1.at_, x.1.wv, x.1.pe, 1000, x.1.sz⟩ : Efx) cs
  · rw [ht] at htr
    clear hcap hv hi
    have HTE := Lib.hid hte; clear hte
    have HTR := Lib.hid htr; clear htr
    go_enter Tryz.func12, Tryz.ntmps12
    go_upto_region 2 with fail
    clear v0 v1 v2 v3 v4 v5 vf0 vf1 vf2 vf3 vf4 vf5 u_0 u_1 u_2 u_f0 u_f1 u_f2 HK0 HA0
    obtain ⟨W1, hW1⟩ : ∃ X, X = (w.alloc (.cells #[.int .i64 (x.1.nu), .int .i64 (x.1.at_), .slice x.2.1 x.2.2.1 x.2.2.2, .int .i64 (x.1.pe), .int .i64 1000, .int .i64 (x.1.sz)] 36)).alloc (.cells #[.int .u16 u0, .int .u16 u1, .int .u16 u2] 102) := ⟨_, rfl⟩
    rw [← hW1] at HK HA HB HV HI ⊢
    clear hW1
    obtain ⟨k0, k1, k2, k3, k4, k5, kf0, kf1, kf2, kf3, kf4, kf5⟩ := HK.out.c6
    obtain ⟨a0, a1, a2, af0, af1, af2⟩ := HA.out.c3
    go_wp2_with (first | (with_reducible refine ((HTR.out _ HV.out HI.out).mono ?_); rintro e w2 ⟨v, rfl, hv1, hb⟩; replace HK := Lib.hid (HK.out.keep hb); clear k0 k1 k2 k3 k4 k5 kf0 kf1 kf2 kf3 kf4 kf5; replace HA := Lib.hid (HA.out.keep hb); clear a0 a1 a2 af0 af1 af2; replace HV := Lib.hid (PtsAt.below HV.out hb); replace HI := Lib.hid (IntsAt.below HI.out hb); replace HB := Lib.hid (bch' HB.out hb); clear hb; obtain ⟨k0, k1, k2, k3, k4, k5, kf0, kf1, kf2, kf3, kf4, kf5⟩ := HK.out.c6; obtain ⟨a0, a1, a2, af0, af1, af2⟩ := HA.out.c3) | (with_reducible refine ((HTE.out _ (ENV.out.below HB.out)).mono ?_); rintro e w' ⟨rfl, hb⟩; replace HK := Lib.hid (HK.out.keep hb); clear k0 k1 k2 k3 k4 k5 kf0 kf1 kf2 kf3 kf4 kf5; replace HA := Lib.hid (HA.out.keep hb); clear a0 a1 a2 af0 af1 af2; replace HV := Lib.hid (PtsAt.below HV.out hb); replace HI := Lib.hid (IntsAt.below HI.out hb); replace HB := Lib.hid (bch' HB.out hb); clear hb; obtain ⟨k0, k1, k2, k3, k4, k5, kf0, kf1, kf2, kf3, kf4, kf5⟩ := HK.out.c6; obtain ⟨a0, a1, a2, af0, af1, af2⟩ := HA.out.c3))
    go_ret
    exact ⟨rfl, HB.out⟩
  · obtain ⟨t1, t2, t3, t4⟩ := trB_on ht
    have ho := efOk t1
    have hp := ho.pe
    dsimp only at hp t4
    have hcp := (chOk t3).pos
    have hcne : ¬ cs = [] := fun e => by rw [e] at hcp; exact absurd hcp (Nat.lt_irrefl _)
    have hke : ((cs.length : Int) == 0) = false := by rw [beq_eq_false_iff_ne]; omega
    have hkn : ¬ (cs.length : Int) = 0 := by omega
    have HT := Lib.hid ht
    rw [ht] at htr
    have e1 : x.1.pe.tmod (cs.length : Int) = x.1.pe % (cs.length : Int) := Int.tmod_eq_emod_of_nonneg (by omega)
    have r0 := Int.emod_nonneg x.1.pe hkn
    have r1 := Int.emod_lt_of_pos x.1.pe (show (0 : Int) < (cs.length : Int) by omega)
    have e2 : IntKind.i64.wrap (x.1.pe % (cs.length : Int)) = x.1.pe % (cs.length : Int) := IntWalk.i64_in _ (by omega)
    by_cases hM : x.1.pe % (cs.length : Int) = 0
    · by_cases hP : 1000000 < x.1.pe
      · clear hi hv hcap
        have HTE := Lib.hid hte; clear hte
        have HTR := Lib.hid htr; clear htr
        go_enter Tryz.func12, Tryz.ntmps12
        go_upto_region 2 with fail
        clear v0 v1 v2 v3 v4 v5 vf0 vf1 vf2 vf3 vf4 vf5 u_0 u_1 u_2 u_f0 u_f1 u_f2 HK0 HA0
        obtain ⟨W1, hW1⟩ : ∃ X, X = (w.alloc (.cells #[.int .i64 (x.1.nu), .int .i64 (x.1.at_), .slice x.2.1 x.2.2.1 x.2.2.2, .int .i64 (x.1.pe), .int .i64 1000, .int .i64 (x.1.sz)] 36)).alloc (.cells #[.int .u16 u0, .int .u16 u1, .int .u16 u2] 102) := ⟨_, rfl⟩
        rw [← hW1] at HK HA HB HV HI ⊢
        clear hW1
        obtain ⟨k0, k1, k2, k3, k4, k5, kf0, kf1, kf2, kf3, kf4, kf5⟩ := HK.out.c6
        obtain ⟨a0, a1, a2, af0, af1, af2⟩ := HA.out.c3
        go_wp2_with (first | (with_reducible refine ((HTR.out _ HV.out HI.out).mono ?_); rintro e w2 ⟨v, rfl, hv1, hb⟩; replace HK := Lib.hid (HK.out.keep hb); clear k0 k1 k2 k3 k4 k5 kf0 kf1 kf2 kf3 kf4 kf5; replace HA := Lib.hid (HA.out.keep hb); clear a0 a1 a2 af0 af1 af2; replace HV := Lib.hid (PtsAt.below HV.out hb); replace HI := Lib.hid (IntsAt.below HI.out hb); replace HB := Lib.hid (bch' HB.out hb); clear hb; obtain ⟨k0, k1, k2, k3, k4, k5, kf0, kf1, kf2, kf3, kf4, kf5⟩ := HK.out.c6; obtain ⟨a0, a1, a2, af0, af1, af2⟩ := HA.out.c3) | (with_reducible refine ((HTE.out _ (ENV.out.below HB.out)).mono ?_); rintro e w' ⟨rfl, hb⟩; replace HK := Lib.hid (HK.out.keep hb); clear k0 k1 k2 k3 k4 k5 kf0 kf1 kf2 kf3 kf4 kf5; replace HA := Lib.hid (HA.out.keep hb); clear a0 a1 a2 af0 af1 af2; replace HV := Lib.hid (PtsAt.below HV.out hb); replace HI := Lib.hid (IntsAt.below HI.out hb); replace HB := Lib.hid (bch' HB.out hb); clear hb; obtain ⟨k0, k1, k2, k3, k4, k5, kf0, kf1, kf2, kf3, kf4, kf5⟩ := HK.out.c6; obtain ⟨a0, a1, a2, af0, af1, af2⟩ := HA.out.c3))
        go_ret
        exact ⟨rfl, HB.out⟩
      · obtain ⟨q, hq⟩ : ∃ q, x.1.pe = (cs.length : Int) * q := Int.dvd_of_emod_eq_zero hM
        have hqd : x.1.pe.tdiv (cs.length : Int) = q := by rw [hq, Int.mul_tdiv_cancel_left _ hkn]
        have hqe : x.1.pe / (cs.length : Int) = q := by rw [hq, Int.mul_ediv_cancel_left _ hkn]
        have q0 : 0 ≤ q := by rcases Int.lt_or_le q 0 with h | h; (have := Int.mul_neg_of_pos_of_neg (show (0 : Int) < (cs.length : Int) by omega) h; omega); exact h
        have q1 : q ≤ x.1.pe := by have h := Int.mul_le_mul_of_nonneg_right (show (1 : Int) ≤ (cs.length : Int) by omega) q0; rw [Int.one_mul, ← hq] at h; exact h
        have s0 := Int.emod_nonneg u2 hkn
        have s1 := Int.emod_lt_of_pos u2 (show (0 : Int) < (cs.length : Int) by omega)
        obtain ⟨s, hs⟩ : ∃ s, s = u2 % (cs.length : Int) := ⟨_, rfl⟩
        have d1 : u2.tmod (cs.length : Int) = s := by rw [Int.tmod_eq_emod_of_nonneg (by omega), hs]
        have d2 : u2 % (cs.length : Int) = s := hs.symm
        rw [← hs] at s0 s1
        clear hs
        have d3 : IntKind.i64.wrap s = s := IntWalk.i64_in _ (by omega)
        have d4 : IntKind.i64.wrap q = q := IntWalk.i64_in _ (by omega)
        have qs0 : 0 ≤ q * s := Int.mul_nonneg q0 s0
        have qs1 : q * s ≤ 1000000 := by have h := Int.mul_le_mul_of_nonneg_left (Int.le_of_lt s1) q0; have e9 : q * (cs.length : Int) = x.1.pe := (by rw [hq, Int.mul_comm]); omega
        have d5 : IntKind.i64.wrap (q * s) = q * s := IntWalk.i64_in _ (by omega)
        have d6 : IntKind.i64.wrap (u0 + u1 + q * s) = u0 + u1 + q * s := IntWalk.i64_in _ (by omega)
        have d7 : IntKind.i64.wrap (u0 + u1) = u0 + u1 := IntWalk.i64_in _ (by omega)
        have hs0 := s0
        have HEO := Lib.hid ho
        have HPQ := Lib.hid hq
        clear t1 t3 t4 ho hq q1 ht hcap hv
        have HTE := Lib.hid hte; clear hte
        have HTR := Lib.hid htr; clear htr
        have HII0 := Lib.hid hi
        go_enter Tryz.func12, Tryz.ntmps12
        go_upto_region 2 with fail
        clear v0 v1 v2 v3 v4 v5 vf0 vf1 vf2 vf3 vf4 vf5 u_0 u_1 u_2 u_f0 u_f1 u_f2 HK0 HA0
        obtain ⟨W1, hW1⟩ : ∃ X, X = (w.alloc (.cells #[.int .i64 (x.1.nu), .int .i64 (x.1.at_), .slice x.2.1 x.2.2.1 x.2.2.2, .int .i64 (x.1.pe), .int .i64 1000, .int .i64 (x.1.sz)] 36)).alloc (.cells #[.int .u16 u0, .int .u16 u1, .int .u16 u2] 102) := ⟨_, rfl⟩
        rw [← hW1] at HK HA HB HV HI ⊢
        clear hW1
        obtain ⟨k0, k1, k2, k3, k4, k5, kf0, kf1, kf2, kf3, kf4, kf5⟩ := HK.out.c6
        obtain ⟨a0, a1, a2, af0, af1, af2⟩ := HA.out.c3
        go_upto_region 9 with (first | (with_reducible refine ((HTR.out _ HV.out HI.out).mono ?_); rintro e w2 ⟨v, rfl, hv1, hb⟩; replace HK := Lib.hid (HK.out.keep hb); clear k0 k1 k2 k3 k4 k5 kf0 kf1 kf2 kf3 kf4 kf5; replace HA := Lib.hid (HA.out.keep hb); clear a0 a1 a2 af0 af1 af2; replace HV := Lib.hid (PtsAt.below HV.out hb); replace HI := Lib.hid (IntsAt.below HI.out hb); replace HB := Lib.hid (bch' HB.out hb); clear hb; obtain ⟨k0, k1, k2, k3, k4, k5, kf0, kf1, kf2, kf3, kf4, kf5⟩ := HK.out.c6; obtain ⟨a0, a1, a2, af0, af1, af2⟩ := HA.out.c3))
        have hb := (Below.refl w2.heap.size w2).alloc (Nat.le_refl _) (.cells #[.int .i64 (x.1.nu), .int .i64 (x.1.at_), .slice x.2.1 x.2.2.1 x.2.2.2, .int .i64 (x.1.pe), .int .i64 1000, .int .i64 (x.1.sz)] 36)
        have HN := Lib.hid (hv1 (by trivial))
        have HL := Lib.hid (efsAt_one (x := ((⟨x.1.nu, x.1.at_, x.1.wv, x.1.pe, 1000, x.1.sz⟩ : Efx), x.2)) (c := 1) (Blk.new w2 36 _) (HV.out.below hb))
        obtain ⟨gl, hgl⟩ : ∃ g, g = w2.heap.size := ⟨_, rfl⟩
        obtain ⟨W3, hW3⟩ : ∃ X, X = w2.alloc (.cells #[.int .i64 (x.1.nu), .int .i64 (x.1.at_), .slice x.2.1 x.2.2.1 x.2.2.2, .int .i64 (x.1.pe), .int .i64 1000, .int .i64 (x.1.sz)] 36) := ⟨_, rfl⟩
        change Hid (EfsAt (w2.alloc (.cells #[.int .i64 (x.1.nu), .int .i64 (x.1.at_), .slice x.2.1 x.2.2.1 x.2.2.2, .int .i64 (x.1.pe), .int .i64 1000, .int .i64 (x.1.sz)] 36)) (.slice (some ⟨w2.heap.size, 0, none⟩) 1 1) [(⟨x.1.nu, x.1.at_, x.1.wv, x.1.pe, 1000, x.1.sz⟩ : Efx)]) at HL
        rw [← hgl] at HL ⊢
        rw [← hW3] at hb HL ⊢
        replace HN := Lib.hid (RunsAt.kept HN.out hb)
        replace HK := Lib.hid (HK.out.keep hb); clear k0 k1 k2 k3 k4 k5 kf0 kf1 kf2 kf3 kf4 kf5; replace HA := Lib.hid (HA.out.keep hb); clear a0 a1 a2 af0 af1 af2; replace HB := Lib.hid (bch' HB.out hb); clear hb; obtain ⟨k0, k1, k2, k3, k4, k5, kf0, kf1, kf2, kf3, kf4, kf5⟩ := HK.out.c6; obtain ⟨a0, a1, a2, af0, af1, af2⟩ := HA.out.c3
        clear hW3 hgl HV HI hv1
        obtain ⟨p9, c9, e9, hii⟩ := HII0.out
        injection e9 with e91 e92 e93
        subst e91 e93
        obtain ⟨bb, oo, rfl, hbb, hcc⟩ := hii (fun e => by subst e; exact absurd hcp (Nat.lt_irrefl _))
        have HCC := Lib.hid hcc; have HBb := Lib.hid hbb
        clear hii HII0 hi e92 hcc hbb
        have hlen : cs.length ≤ 6 := t2
        go_wp2_with fail
        go_loopw [62] (fun s62 wr => ∃ i r : Nat, s62 = .int .i64 (i : Int) ∧ Hid (i + r = cs.length) ∧ Hid (Below w.heap.size w wr) ∧ Hid (Blk wr w.heap.size 36 #[.int .i64 (x.1.nu), .int .i64 (x.1.at_), .slice x.2.1 x.2.2.1 x.2.2.2, .int .i64 (x.1.pe), .int .i64 1000, .int .i64 (x.1.sz)]) ∧ Hid (EfsAt wr (.slice (some ⟨gl, 0, none⟩) 1 1) [(⟨x.1.nu, x.1.at_, x.1.wv, x.1.pe, 1000, x.1.sz⟩ : Efx)]) ∧ Hid (RunsAt wr v [newR x.1.nu cs u0])) (fun s62 _ => cs.length - (intOf s62).toNat)
        case atStart => exact ⟨0, cs.length, rfl, Lib.hid (by omega), HB, HK, HL, HN⟩
        case round =>
          clear HB HK HL HN k0 k1 k2 k3 k4 k5 kf0 kf1 kf2 kf3 kf4 kf5
          obtain ⟨i, r, rfl, hkr, HB, HK, HL, HN⟩ := hrel
          obtain ⟨k0, k1, k2, k3, k4, k5, kf0, kf1, kf2, kf3, kf4, kf5⟩ := HK.out.c6
          cases r with
          | zero =>
            have hlt : ¬ (i : Int) < (cs.length : Int) := by have := hkr.out; omega
            go_wp2_with (first | (with_reducible refine ((HTE.out _ (ENV.out.below HB.out)).mono ?_); rintro e w' ⟨rfl, hb⟩; replace HK := Lib.hid (HK.out.keep hb); clear k0 k1 k2 k3 k4 k5 kf0 kf1 kf2 kf3 kf4 kf5; replace HL := Lib.hid (EfsAt.kept HL.out hb); replace HN := Lib.hid (RunsAt.kept HN.out hb); replace HB := Lib.hid (bch' HB.out hb); clear hb; obtain ⟨k0, k1, k2, k3, k4, k5, kf0, kf1, kf2, kf3, kf4, kf5⟩ := HK.out.c6))
            go_ret
            exact ⟨rfl, HB.out⟩
          | succ r =>
            have hkl : i < cs.length := by have := hkr.out; omega
            have hlt : (i : Int) < (cs.length : Int) := by omega
            have hi0 : (0 : Int) ≤ (i : Int) := by omega
            have hun : IntKind.i64.wrap ((i : Int) + 1) = (i : Int) + 1 := IntWalk.i64_in _ (by omega)
            have x0 : wr.cell? ⟨bb, oo + i, none⟩ = some (.int .i64 (inI cs i)) := (HB.out.cell (p := ⟨bb, oo + i, none⟩) HBb.out).trans (HCC.out i hkl)
            have hbr : bb < wr.heap.size := Nat.lt_of_lt_of_le HBb.out HB.out.size
            have hj := Int.emod_nonneg ((i : Int) + s) (show (cs.length : Int) ≠ 0 by omega)
            have hj2 := Int.emod_lt_of_pos ((i : Int) + s) (show (0 : Int) < (cs.length : Int) by omega)
            obtain ⟨j, hjj⟩ : ∃ j : Nat, (j : Int) = ((i : Int) + s) % (cs.length : Int) := ⟨(((i : Int) + s) % (cs.length : Int)).toNat, Int.toNat_of_nonneg hj⟩
            have hjl : j < cs.length := by omega
            have hjt : (j : Int) < (cs.length : Int) := by omega
            have hjn : (0 : Int) ≤ (j : Int) := by omega
            have m1 : IntKind.i64.wrap ((i : Int) + s) = (i : Int) + s := IntWalk.i64_in _ (by omega)
            have m2 : ((i : Int) + s).tmod (cs.length : Int) = (j : Int) := by rw [Int.tmod_eq_emod_of_nonneg (by omega), hjj]
            have m3 : IntKind.i64.wrap (j : Int) = (j : Int) := IntWalk.i64_in _ (by omega)
            have m4 : ((i : Int) + s) % (cs.length : Int) = (j : Int) := hjj.symm
            have HCj := Lib.hid (HCC.out j hjl)
            have hco : offQ (⟨x.1.nu, x.1.at_, x.1.wv, x.1.pe, 1000, x.1.sz⟩ : Efx) i cs.length (100 * (u0 + u1 + q * s - u0)) = offQ (⟨x.1.nu, x.1.at_, x.1.wv, x.1.pe, 1000, x.1.sz⟩ : Efx) (j : Int) cs.length (100 * (u0 + u1 - u0)) := by
              rw [show 100 * (u0 + u1 + q * s - u0) = 100 * (u0 + u1 - u0) + 100 * (q * s) by omega, chase_off (x := (⟨x.1.nu, x.1.at_, x.1.wv, x.1.pe, 1000, x.1.sz⟩ : Efx)) _ HEO.out rfl (by omega) HPQ.out hs0, hjj]
            have hsa := fun W (h1 : EfsAt W (.slice (some ⟨gl, 0, none⟩) 1 1) [(⟨x.1.nu, x.1.at_, x.1.wv, x.1.pe, 1000, x.1.sz⟩ : Efx)]) (h2 : RunsAt W v [newR x.1.nu cs u0]) (e : Env W) => own_esum [(⟨x.1.nu, x.1.at_, x.1.wv, x.1.pe, 1000, x.1.sz⟩ : Efx)] [newR x.1.nu cs u0] (.slice (some ⟨gl, 0, none⟩) 1 1) v (u0 + u1 + q * s) (inI cs i) x.1.at_ W h1 h2 e
            rw [suE_alone (x := (⟨x.1.nu, x.1.at_, x.1.wv, x.1.pe, 1000, x.1.sz⟩ : Efx)) HT.out hkl hu0.1 (by omega) (by omega), hco] at hsa
            have hsb := fun W (h1 : EfsAt W (.slice (some ⟨gl, 0, none⟩) 1 1) [(⟨x.1.nu, x.1.at_, x.1.wv, x.1.pe, 1000, x.1.sz⟩ : Efx)]) (h2 : RunsAt W v [newR x.1.nu cs u0]) (e : Env W) => own_esum [(⟨x.1.nu, x.1.at_, x.1.wv, x.1.pe, 1000, x.1.sz⟩ : Efx)] [newR x.1.nu cs u0] (.slice (some ⟨gl, 0, none⟩) 1 1) v (u0 + u1) (inI cs j) x.1.at_ W h1 h2 e
            rw [suE_alone (x := (⟨x.1.nu, x.1.at_, x.1.wv, x.1.pe, 1000, x.1.sz⟩ : Efx)) HT.out hjl hu0.1 (by omega) (by omega)] at hsb
            dsimp only at hsa hsb
            clear hco hj hj2 hjj
            generalize showR (offQ (⟨x.1.nu, x.1.at_, x.1.wv, x.1.pe, 1000, x.1.sz⟩ : Efx) (j : Int) cs.length (100 * (u0 + u1 - u0))) = z9 at *
            have HSA := Lib.hid hsa; clear hsa
            have HSB := Lib.hid hsb; clear hsb
            generalize hz1 : inI cs i = z1 at *
            generalize hz2 : inI cs j = z2 at *
            clear hz1 hz2
            go_wp2_with fail
            have f1 := fun p : BelowOf _ => (HK.out.keep p.h).c6.2.1
            have f3 := fun p : BelowOf _ => (HK.out.keep p.h).c6.2.2.2.1
            refine wp_region_WQ (by kernel_rfl) (by kernel_rfl) ?_
            repeat (refine WQ.step (fun K hK => ?_); go_simp; first | (refine hK.out _ ?_; clear hK K) | (apply Exists.intro; refine ⟨fun _ => ?_, hK.out _ ?_⟩; (first | rfl | (go_at_call 31; exact calls_below_of _ (HSA.out _ (EfsAt.kept HL.out (BelowOf.h _)) (RunsAt.kept HN.out (BelowOf.h _)) (ENV.out.below (bch' HB.out (BelowOf.h _)))))); clear hK K))
            refine WQ.nil ?_
            intro _ hw'
            obtain ⟨⟨wq, hbq⟩, hw2⟩ := hw'
            subst hw2
            replace HK := Lib.hid (HK.out.keep hbq); replace HL := Lib.hid (EfsAt.kept HL.out hbq); replace HN := Lib.hid (RunsAt.kept HN.out hbq)
            replace HB := Lib.hid (bch' HB.out hbq)
            clear f1 f3
            clear k0 k1 k2 k3 k4 k5 kf0 kf1 kf2 kf3 kf4 kf5
            obtain ⟨k0, k1, k2, k3, k4, k5, kf0, kf1, kf2, kf3, kf4, kf5⟩ := HK.out.c6
            go_wp2_with fail
            have f1 := fun p : BelowOf _ => (HK.out.keep p.h).c6.2.1
            have f3 := fun p : BelowOf _ => (HK.out.keep p.h).c6.2.2.2.1
            have fj := fun p : BelowOf _ => ((bch' HB.out p.h).cell (p := ⟨bb, oo + j, none⟩) HBb.out).trans HCj.out
            refine wp_region_WQ (by kernel_rfl) (by kernel_rfl) ?_
            repeat (refine WQ.step (fun K hK => ?_); go_simp; first | (refine hK.out _ ?_; clear hK K) | (apply Exists.intro; refine ⟨fun _ => ?_, hK.out _ ?_⟩; (first | rfl | (go_at_call 31; exact calls_below_of _ (HSB.out _ (EfsAt.kept HL.out (BelowOf.h _)) (RunsAt.kept HN.out (BelowOf.h _)) (ENV.out.below (bch' HB.out (BelowOf.h _)))))); clear hK K))
            refine WQ.nil ?_
            intro _ hw'
            obtain ⟨⟨wq, hbq⟩, hw2⟩ := hw'
            subst hw2
            replace HK := Lib.hid (HK.out.keep hbq); replace HL := Lib.hid (EfsAt.kept HL.out hbq); replace HN := Lib.hid (RunsAt.kept HN.out hbq)
            replace HB := Lib.hid (bch' HB.out hbq)
            clear f1 f3 fj
            clear k0 k1 k2 k3 k4 k5 kf0 kf1 kf2 kf3 kf4 kf5
            obtain ⟨k0, k1, k2, k3, k4, k5, kf0, kf1, kf2, kf3, kf4, kf5⟩ := HK.out.c6
            go_wp2_with fail
            go_roundw
            case rel => exact ⟨i + 1, r, by first | rfl | simp, Lib.hid (by have := hkr.out; omega), HB, HK, HL, HN⟩
            case measure => first | (simp [intOf]; done) | (simp [intOf]; omega)
    · have hM2 : ((x.1.pe % (cs.length : Int) : Int) != 0) = true := by simpa using hM
      generalize x.1.pe % (cs.length : Int) = m9 at *
      clear hi hv hcap
      have HTE := Lib.hid hte; clear hte
      have HTR := Lib.hid htr; clear htr
      go_enter Tryz.func12, Tryz.ntmps12
      go_upto_region 2 with fail
      clear v0 v1 v2 v3 v4 v5 vf0 vf1 vf2 vf3 vf4 vf5 u_0 u_1 u_2 u_f0 u_f1 u_f2 HK0 HA0
      obtain ⟨W1, hW1⟩ : ∃ X, X = (w.alloc (.cells #[.int .i64 (x.1.nu), .int .i64 (x.1.at_), .slice x.2.1 x.2.2.1 x.2.2.2, .int .i64 (x.1.pe), .int .i64 1000, .int .i64 (x.1.sz)] 36)).alloc (.cells #[.int .u16 u0, .int .u16 u1, .int .u16 u2] 102) := ⟨_, rfl⟩
      rw [← hW1] at HK HA HB HV HI ⊢
      clear hW1
      obtain ⟨k0, k1, k2, k3, k4, k5, kf0, kf1, kf2, kf3, kf4, kf5⟩ := HK.out.c6
      obtain ⟨a0, a1, a2, af0, af1, af2⟩ := HA.out.c3
      go_wp2_with (first | (with_reducible refine ((HTR.out _ HV.out HI.out).mono ?_); rintro e w2 ⟨v, rfl, hv1, hb⟩; replace HK := Lib.hid (HK.out.keep hb); clear k0 k1 k2 k3 k4 k5 kf0 kf1 kf2 kf3 kf4 kf5; replace HA := Lib.hid (HA.out.keep hb); clear a0 a1 a2 af0 af1 af2; replace HV := Lib.hid (PtsAt.below HV.out hb); replace HI := Lib.hid (IntsAt.below HI.out hb); replace HB := Lib.hid (bch' HB.out hb); clear hb; obtain ⟨k0, k1, k2, k3, k4, k5, kf0, kf1, kf2, kf3, kf4, kf5⟩ := HK.out.c6; obtain ⟨a0, a1, a2, af0, af1, af2⟩ := HA.out.c3) | (with_reducible refine ((HTE.out _ (ENV.out.below HB.out)).mono ?_); rintro e w' ⟨rfl, hb⟩; replace HK := Lib.hid (HK.out.keep hb); clear k0 k1 k2 k3 k4 k5 kf0 kf1 kf2 kf3 kf4 kf5; replace HA := Lib.hid (HA.out.keep hb); clear a0 a1 a2 af0 af1 af2; replace HV := Lib.hid (PtsAt.below HV.out hb); replace HI := Lib.hid (IntsAt.below HI.out hb); replace HB := Lib.hid (bch' HB.out hb); clear hb; obtain ⟨k0, k1, k2, k3, k4, k5, kf0, kf1, kf2, kf3, kf4, kf5⟩ := HK.out.c6; obtain ⟨a0, a1, a2, af0, af1, af2⟩ := HA.out.c3))
      go_ret
      exact ⟨rfl, HB.out⟩
end Go.Proofs.YtbamcfhmkohbmaaGreatDoor
