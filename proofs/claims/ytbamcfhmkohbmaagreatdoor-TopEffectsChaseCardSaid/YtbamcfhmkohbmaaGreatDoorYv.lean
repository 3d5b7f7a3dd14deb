/-
  Top: tryRun, tryEffects; the law TopEffectsPeriods.
-/
import Derived.Test.YtbamcfhmkohbmaaGreatDoorYt
set_option linter.unusedVariables false
set_option linter.unusedSimpArgs false
namespace Go.Proofs.YtbamcfhmkohbmaaGreatDoor
open Go.RowKit Go.Shelf Lum
open Go.Lib (decDigits itoa)
attribute [local go_sem] bs_get bs_extract_end bs_extract_from bs_extract bs_append

set_option maxRecDepth 100000 in
set_option maxHeartbeats 8000000 in
theorem top_tryRun (x : Efx × Sl3) (t : Int) (cs : List Int) (p : Option Addr) (c : Nat) (w : World) (hv : PtsAt w (.slice x.2.1 x.2.2.1 x.2.2.2) x.1.wv) (hi : IntsAt w (.slice p cs.length c) cs) (hcap : cs.length ≤ c) :
    Calls Tryz.prog 54 #[.agg #[.int .i64 (x.1.nu), .int .i64 (x.1.at_), .slice x.2.1 x.2.2.1 x.2.2.2, .int .i64 (x.1.pe), .int .i64 (x.1.sp), .int .i64 (x.1.sz)], .slice p cs.length c, .int .i64 t] w fun e w' => ∃ v, e = .returned (.tuple #[v, .bool (trB x.1 cs && wiB t 0 10000000)]) ∧ ((trB x.1 cs && wiB t 0 10000000) = true → RunsAt w' v [newR x.1.nu cs t]) ∧ Below w.heap.size w w' := by
  have hef := fun W (h : PtsAt W (.slice x.2.1 x.2.2.1 x.2.2.2) x.1.wv) => r28_effect x.1.nu x.1.at_ x.1.pe x.1.sp x.1.sz x.1.wv x.2.1 x.2.2.1 x.2.2.2 W h
  change ∀ W, PtsAt W (.slice x.2.1 x.2.2.1 x.2.2.2) x.1.wv → Calls _ _ _ _ (fun e w' => e = .returned (.int .i64 (efE x.1)) ∧ _) at hef
  have hrn := fun W (h : IntsAt W (.slice p cs.length c) cs) => r28_run x.1.nu 0 1 0 0 cs p cs.length c W h
  have hal := (Below.refl w.heap.size w).alloc (Nat.le_refl _) (.cells #[.int .i64 (x.1.nu), .int .i64 (x.1.at_), .slice x.2.1 x.2.2.1 x.2.2.2, .int .i64 (x.1.pe), .int .i64 (x.1.sp), .int .i64 (x.1.sz)] 36)
  have HV := Lib.hid (PtsAt.below hv hal); have HI := Lib.hid (IntsAt.below hi hal); clear hal
  have HK := Lib.hid (Blk.new w 36 #[.int .i64 (x.1.nu), .int .i64 (x.1.at_), .slice x.2.1 x.2.2.1 x.2.2.2, .int .i64 (x.1.pe), .int .i64 (x.1.sp), .int .i64 (x.1.sz)])
  have HB := Lib.hid ((Below.refl w.heap.size w).alloc (Nat.le_refl _) (.cells #[.int .i64 (x.1.nu), .int .i64 (x.1.at_), .slice x.2.1 x.2.2.1 x.2.2.2, .int .i64 (x.1.pe), .int .i64 (x.1.sp), .int .i64 (x.1.sz)] 36))
  obtain ⟨k0, k1, k2, k3, k4, k5, kf0, kf1, kf2, kf3, kf4, kf5⟩ := HK.out.c6
  by_cases h1 : efE x.1 = 0
  · by_cases h2 : cs.length ≤ 6
    · by_cases h3 : rnE ⟨x.1.nu, cs, 0, 1, 0, 0⟩ = 0
      · have htr : trB x.1 cs = true := by unfold trB; rw [decide_eq_true h1, decide_eq_true h2, decide_eq_true h3]; rfl
        obtain ⟨t1, t2, t3, t4⟩ := trB_on htr
        rw [h1] at hef
        rw [h3] at hrn
        have hst := fun W (h : IntsAt W (.slice p cs.length c) cs) => own_estart [] (.slice none 0 0) x.1.nu t cs p cs.length c W (runsAt_nil W) h hcap (by omega)
        have h2n : ¬ (6 : Int) < (cs.length : Int) := by omega
        by_cases ht : 0 ≤ t ∧ t ≤ 10000000
        · rw [stE_zero t3 t4 ht] at hst
          have HW : Hid ((trB x.1 cs && wiB t 0 10000000) = true) := Lib.hid (by rw [htr, (wiB_iff t 0 10000000).2 ht]; rfl)
          clear htr t1 t3 t4 h1 h2 h3 hv hi hcap
          have HEF := Lib.hid hef; clear hef
          have HRN := Lib.hid hrn; clear hrn
          have HST := Lib.hid hst; clear hst
          go_enter Tryz.func54, Tryz.ntmps54
          go_upto_region 3 with (first | (with_reducible refine ((HEF.out _ HV.out).mono ?_); rintro e w' ⟨rfl, hb⟩; replace HK := Lib.hid (HK.out.keep hb); clear k0 k1 k2 k3 k4 k5 kf0 kf1 kf2 kf3 kf4 kf5; replace HV := Lib.hid (PtsAt.below HV.out hb); replace HI := Lib.hid (IntsAt.below HI.out hb); replace HB := Lib.hid (bch' HB.out hb); clear hb; obtain ⟨k0, k1, k2, k3, k4, k5, kf0, kf1, kf2, kf3, kf4, kf5⟩ := HK.out.c6) | (with_reducible refine ((HRN.out _ HI.out).mono ?_); rintro e w' ⟨rfl, hb⟩; replace HK := Lib.hid (HK.out.keep hb); clear k0 k1 k2 k3 k4 k5 kf0 kf1 kf2 kf3 kf4 kf5; replace HV := Lib.hid (PtsAt.below HV.out hb); replace HI := Lib.hid (IntsAt.below HI.out hb); replace HB := Lib.hid (bch' HB.out hb); clear hb; obtain ⟨k0, k1, k2, k3, k4, k5, kf0, kf1, kf2, kf3, kf4, kf5⟩ := HK.out.c6))
          go_wp2_with fail
          refine ((HST.out _ HI.out).mono ?_)
          rintro e w9 ⟨v, rfl, hv1, -, hb⟩
          replace HK := Lib.hid (HK.out.keep hb); clear k0 k1 k2 k3 k4 k5 kf0 kf1 kf2 kf3 kf4 kf5; replace HV := Lib.hid (PtsAt.below HV.out hb); replace HI := Lib.hid (IntsAt.below HI.out hb); replace HB := Lib.hid (bch' HB.out hb); clear hb; obtain ⟨k0, k1, k2, k3, k4, k5, kf0, kf1, kf2, kf3, kf4, kf5⟩ := HK.out.c6
          have HV1 := Lib.hid (hv1 rfl); clear hv1 HST
          obtain ⟨M, pm, cm, rfl, hM, hMR, hMC⟩ := HV1.out
          have hml : M.length = 1 := by have := congrArg List.length hM; rw [List.length_map, putL_nil] at this; exact this
          rw [hml] at HV1 ⊢
          clear hM hMR hMC
          go_wp2_with fail
          go_ret2
          exact ⟨_, by rw [HW.out]; rfl, fun _ => HV1.out, HB.out⟩
        · have hwi : wiB t 0 10000000 = false := by have := mt (wiB_iff t 0 10000000).1 ht; simpa using this
          rw [stE_time rfl hwi] at hst
          have HW : Hid ((trB x.1 cs && wiB t 0 10000000) = false) := Lib.hid (by rw [hwi]; simp)
          clear htr t1 t3 t4 h1 h2 h3 hv hi hcap
          have HEF := Lib.hid hef; clear hef
          have HRN := Lib.hid hrn; clear hrn
          have HST := Lib.hid hst; clear hst
          go_enter Tryz.func54, Tryz.ntmps54
          go_upto_region 3 with (first | (with_reducible refine ((HEF.out _ HV.out).mono ?_); rintro e w' ⟨rfl, hb⟩; replace HK := Lib.hid (HK.out.keep hb); clear k0 k1 k2 k3 k4 k5 kf0 kf1 kf2 kf3 kf4 kf5; replace HV := Lib.hid (PtsAt.below HV.out hb); replace HI := Lib.hid (IntsAt.below HI.out hb); replace HB := Lib.hid (bch' HB.out hb); clear hb; obtain ⟨k0, k1, k2, k3, k4, k5, kf0, kf1, kf2, kf3, kf4, kf5⟩ := HK.out.c6) | (with_reducible refine ((HRN.out _ HI.out).mono ?_); rintro e w' ⟨rfl, hb⟩; replace HK := Lib.hid (HK.out.keep hb); clear k0 k1 k2 k3 k4 k5 kf0 kf1 kf2 kf3 kf4 kf5; replace HV := Lib.hid (PtsAt.below HV.out hb); replace HI := Lib.hid (IntsAt.below HI.out hb); replace HB := Lib.hid (bch' HB.out hb); clear hb; obtain ⟨k0, k1, k2, k3, k4, k5, kf0, kf1, kf2, kf3, kf4, kf5⟩ := HK.out.c6))
          go_wp2_with fail
          refine ((HST.out _ HI.out).mono ?_)
          rintro e w9 ⟨v, rfl, -, hv1, hb⟩
          replace HK := Lib.hid (HK.out.keep hb); clear k0 k1 k2 k3 k4 k5 kf0 kf1 kf2 kf3 kf4 kf5; replace HV := Lib.hid (PtsAt.below HV.out hb); replace HI := Lib.hid (IntsAt.below HI.out hb); replace HB := Lib.hid (bch' HB.out hb); clear hb; obtain ⟨k0, k1, k2, k3, k4, k5, kf0, kf1, kf2, kf3, kf4, kf5⟩ := HK.out.c6
          obtain rfl := hv1 (by decide)
          clear HST
          go_wp2_with fail
          go_ret2
          exact ⟨_, by rw [HW.out]; rfl, (fun h => by rw [HW.out] at h; cases h), HB.out⟩
      · have h2n : ¬ (6 : Int) < (cs.length : Int) := by omega
        have hne : ((rnE ⟨x.1.nu, cs, 0, 1, 0, 0⟩ : Int) != 0) = true := by simpa using h3
        rw [h1] at hef
        have HT : Hid (trB x.1 cs = false) := Lib.hid (by unfold trB; rw [decide_eq_false h3]; simp)
        clear h1 h3
        generalize rnE ⟨x.1.nu, cs, 0, 1, 0, 0⟩ = m at *
        clear hv hi hcap
        have HEF := Lib.hid hef; clear hef
        have HRN := Lib.hid hrn; clear hrn
        go_enter Tryz.func54, Tryz.ntmps54
        go_wp2_with (first | (with_reducible refine ((HEF.out _ HV.out).mono ?_); rintro e w' ⟨rfl, hb⟩; replace HK := Lib.hid (HK.out.keep hb); clear k0 k1 k2 k3 k4 k5 kf0 kf1 kf2 kf3 kf4 kf5; replace HV := Lib.hid (PtsAt.below HV.out hb); replace HI := Lib.hid (IntsAt.below HI.out hb); replace HB := Lib.hid (bch' HB.out hb); clear hb; obtain ⟨k0, k1, k2, k3, k4, k5, kf0, kf1, kf2, kf3, kf4, kf5⟩ := HK.out.c6) | (with_reducible refine ((HRN.out _ HI.out).mono ?_); rintro e w' ⟨rfl, hb⟩; replace HK := Lib.hid (HK.out.keep hb); clear k0 k1 k2 k3 k4 k5 kf0 kf1 kf2 kf3 kf4 kf5; replace HV := Lib.hid (PtsAt.below HV.out hb); replace HI := Lib.hid (IntsAt.below HI.out hb); replace HB := Lib.hid (bch' HB.out hb); clear hb; obtain ⟨k0, k1, k2, k3, k4, k5, kf0, kf1, kf2, kf3, kf4, kf5⟩ := HK.out.c6))
        go_ret2
        exact ⟨_, by rw [HT.out]; rfl, (fun h => by rw [HT.out] at h; cases h), HB.out⟩
    · have h2n : (6 : Int) < (cs.length : Int) := by omega
      rw [h1] at hef
      have HT : Hid (trB x.1 cs = false) := Lib.hid (by unfold trB; rw [decide_eq_false h2]; simp)
      clear hv hi hcap
      have HEF := Lib.hid hef; clear hef
      have HRN := Lib.hid hrn; clear hrn
      go_enter Tryz.func54, Tryz.ntmps54
      go_wp2_with (first | (with_reducible refine ((HEF.out _ HV.out).mono ?_); rintro e w' ⟨rfl, hb⟩; replace HK := Lib.hid (HK.out.keep hb); clear k0 k1 k2 k3 k4 k5 kf0 kf1 kf2 kf3 kf4 kf5; replace HV := Lib.hid (PtsAt.below HV.out hb); replace HI := Lib.hid (IntsAt.below HI.out hb); replace HB := Lib.hid (bch' HB.out hb); clear hb; obtain ⟨k0, k1, k2, k3, k4, k5, kf0, kf1, kf2, kf3, kf4, kf5⟩ := HK.out.c6))
      go_ret2
      exact ⟨_, by rw [HT.out]; rfl, (fun h => by rw [HT.out] at h; cases h), HB.out⟩
  · have hne : ((efE x.1 : Int) != 0) = true := by simpa using h1
    have HT : Hid (trB x.1 cs = false) := Lib.hid (by unfold trB; rw [decide_eq_false h1]; simp)
    clear h1
    generalize efE x.1 = m at *
    clear hv hi hcap
    have HEF := Lib.hid hef; clear hef
    have HRN := Lib.hid hrn; clear hrn
    go_enter Tryz.func54, Tryz.ntmps54
    go_wp2_with (first | (with_reducible refine ((HEF.out _ HV.out).mono ?_); rintro e w' ⟨rfl, hb⟩; replace HK := Lib.hid (HK.out.keep hb); clear k0 k1 k2 k3 k4 k5 kf0 kf1 kf2 kf3 kf4 kf5; replace HV := Lib.hid (PtsAt.below HV.out hb); replace HI := Lib.hid (IntsAt.below HI.out hb); replace HB := Lib.hid (bch' HB.out hb); clear hb; obtain ⟨k0, k1, k2, k3, k4, k5, kf0, kf1, kf2, kf3, kf4, kf5⟩ := HK.out.c6))
    go_ret2
    exact ⟨_, by rw [HT.out]; rfl, (fun h => by rw [HT.out] at h; cases h), HB.out⟩

set_option maxRecDepth 100000 in
set_option maxHeartbeats 8000000 in
theorem top_tryEffects (w : World) (env : Env w) :
    Calls Tryz.prog 55 #[] w fun e w' => e = .returned (.bool true) ∧ Below w.heap.size w w' := by
  have ENV := Lib.hid env; clear env
  have hstE : stE [] 1 [4, 2] 0 = 0 := by decide +kernel
  have hsu4 : suE [exX] [newR 1 [4, 2] 0] 50 4 0 = ([56, 48], 0) := by decide +kernel
  have hsu2 : suE [exX] [newR 1 [4, 2] 0] 0 2 0 = ([56, 48], 0) := by decide +kernel
  have hb := ((Below.refl w.heap.size w).alloc (Nat.le_refl _) (.cells #[.int .i64 0, .int .i64 0, .int .i64 500, .int .i64 1000, .int .i64 1000, .int .i64 0] 33)).alloc (by simp) (.cells #[.int .i64 1, .int .i64 0, .slice (some ⟨w.heap.size, 0, none⟩) 3 3, .int .i64 100, .int .i64 1000, .int .i64 80] 36)
  have hw := (Blk.new w 33 #[.int .i64 0, .int .i64 0, .int .i64 500, .int .i64 1000, .int .i64 1000, .int .i64 0]).alloc (.cells #[.int .i64 1, .int .i64 0, .slice (some ⟨w.heap.size, 0, none⟩) 3 3, .int .i64 100, .int .i64 1000, .int .i64 80] 36)
  have hx := Blk.new (w.alloc (.cells #[.int .i64 0, .int .i64 0, .int .i64 500, .int .i64 1000, .int .i64 1000, .int .i64 0] 33)) 36 #[.int .i64 1, .int .i64 0, .slice (some ⟨w.heap.size, 0, none⟩) 3 3, .int .i64 100, .int .i64 1000, .int .i64 80]
  rw [World.size_alloc] at hx
  have hpt : PtsAt ((w.alloc (.cells #[.int .i64 0, .int .i64 0, .int .i64 500, .int .i64 1000, .int .i64 1000, .int .i64 0] 33)).alloc (.cells #[.int .i64 1, .int .i64 0, .slice (some ⟨w.heap.size, 0, none⟩) 3 3, .int .i64 100, .int .i64 1000, .int .i64 80] 36)) (.slice (some ⟨w.heap.size, 0, none⟩) 3 3) exX.wv := ⟨_, 3, rfl, fun _ => ⟨w.heap.size, 0, rfl, hw.lt, fun i hi => by
    have hi3 : i < 3 := hi
    match i, hi3 with
    | 0, _ => exact ⟨hw.cell 0, hw.cell 1⟩
    | 1, _ => exact ⟨hw.cell 2, hw.cell 3⟩
    | 2, _ => exact ⟨hw.cell 4, hw.cell 5⟩⟩⟩
  have HPT := Lib.hid hpt; have HB := Lib.hid hb; have HX := Lib.hid hx; clear hpt hb hw hx
  obtain ⟨x0, x1, x2, x3, x4, x5, xf0, xf1, xf2, xf3, xf4, xf5⟩ := HX.out.c6
  go_enter Tryz.func55, Tryz.ntmps55
  go_upto_region 2 with fail
  obtain ⟨W1, hW1⟩ : ∃ X, X = (w.alloc (.cells #[.int .i64 0, .int .i64 0, .int .i64 500, .int .i64 1000, .int .i64 1000, .int .i64 0] 33)).alloc (.cells #[.int .i64 1, .int .i64 0, .slice (some ⟨w.heap.size, 0, none⟩) 3 3, .int .i64 100, .int .i64 1000, .int .i64 80] 36) := ⟨_, rfl⟩
  rw [← hW1] at HPT HB HX x0 x1 x2 x3 x4 x5 xf0 xf1 xf2 xf3 xf4 xf5 ⊢
  clear hW1
  have hst := own_estart [] (.slice none 0 0) 1 0 [4, 2] (some ⟨W1.heap.size, 0, none⟩) 2 2 (W1.alloc (.cells #[.int .i64 4, .int .i64 2] 3)) (runsAt_nil _) ⟨_, 2, rfl, fun _ => ⟨W1.heap.size, 0, rfl, by simp, fun i hi => by
    have hw2 := Blk.new W1 3 #[.int .i64 4, .int .i64 2]
    have hi3 : i < 2 := hi
    match i, hi3 with
    | 0, _ => exact hw2.cell 0
    | 1, _ => exact hw2.cell 1⟩⟩ (by simp) (by simp)
  rw [hstE] at hst
  have HST := Lib.hid hst; clear hst hstE
  go_wp2_with fail
  refine (HST.out.mono ?_)
  rintro e w2 ⟨v, rfl, hv1, -, hb⟩
  have hb1 := (Below.refl W1.heap.size W1).alloc (Nat.le_refl _) (.cells #[.int .i64 4, .int .i64 2] 3)
  replace hb := bch' hb1 hb
  have HV1 := Lib.hid (hv1 rfl); clear hv1 HST hb1
  replace HX := Lib.hid (HX.out.keep hb); clear x0 x1 x2 x3 x4 x5 xf0 xf1 xf2 xf3 xf4 xf5; replace HPT := Lib.hid (PtsAt.below HPT.out hb); replace HB := Lib.hid (bch' HB.out hb); clear hb; obtain ⟨x0, x1, x2, x3, x4, x5, xf0, xf1, xf2, xf3, xf4, xf5⟩ := HX.out.c6
  rw [putL_nil] at HV1
  have hs4 := fun W (h : RunsAt W v [newR 1 [4, 2] 0]) (hp : PtsAt W (.slice (some ⟨w.heap.size, 0, none⟩) 3 3) exX.wv) (e : Env W) => (own_esum [exX] [newR 1 [4, 2] 0] (.slice (some ⟨W.heap.size, 0, none⟩) 1 1) v 50 4 0 (W.alloc (.cells #[.int .i64 1, .int .i64 0, .slice (some ⟨w.heap.size, 0, none⟩) 3 3, .int .i64 100, .int .i64 1000, .int .i64 80] 36)) (efsAt_one (x := (exX, (some ⟨w.heap.size, 0, none⟩, 3, 3))) (Blk.new W 36 _) (hp.below ((Below.refl _ _).alloc (Nat.le_refl _) _))) (h.kept ((Below.refl _ _).alloc (Nat.le_refl _) _)) (e.below ((Below.refl _ _).alloc (Nat.le_refl _) _))).mono (R' := fun e w' => e = .returned (.tuple #[.string ⟨#[56, 48]⟩, .int .i64 0]) ∧ Below W.heap.size W w') (fun e w' h => ⟨by rw [h.1, hsu4], bch' ((Below.refl _ _).alloc (Nat.le_refl _) _) h.2⟩)
  have hs2 := fun W (h : RunsAt W v [newR 1 [4, 2] 0]) (hp : PtsAt W (.slice (some ⟨w.heap.size, 0, none⟩) 3 3) exX.wv) (e : Env W) => (own_esum [exX] [newR 1 [4, 2] 0] (.slice (some ⟨W.heap.size, 0, none⟩) 1 1) v 0 2 0 (W.alloc (.cells #[.int .i64 1, .int .i64 0, .slice (some ⟨w.heap.size, 0, none⟩) 3 3, .int .i64 100, .int .i64 1000, .int .i64 80] 36)) (efsAt_one (x := (exX, (some ⟨w.heap.size, 0, none⟩, 3, 3))) (Blk.new W 36 _) (hp.below ((Below.refl _ _).alloc (Nat.le_refl _) _))) (h.kept ((Below.refl _ _).alloc (Nat.le_refl _) _)) (e.below ((Below.refl _ _).alloc (Nat.le_refl _) _))).mono (R' := fun e w' => e = .returned (.tuple #[.string ⟨#[56, 48]⟩, .int .i64 0]) ∧ Below W.heap.size W w') (fun e w' h => ⟨by rw [h.1, hsu2], bch' ((Below.refl _ _).alloc (Nat.le_refl _) _) h.2⟩)
  clear hsu4 hsu2
  have HS4 := Lib.hid hs4; clear hs4
  have HS2 := Lib.hid hs2; clear hs2
  go_wp2_with (first | (with_reducible refine ((HS4.out _ HV1.out HPT.out (ENV.out.below HB.out)).mono ?_); rintro e w' ⟨rfl, hb⟩; replace HX := Lib.hid (HX.out.keep hb); clear x0 x1 x2 x3 x4 x5 xf0 xf1 xf2 xf3 xf4 xf5; replace HPT := Lib.hid (PtsAt.below HPT.out hb); replace HV1 := Lib.hid (RunsAt.kept HV1.out hb); replace HB := Lib.hid (bch' HB.out hb); clear hb; obtain ⟨x0, x1, x2, x3, x4, x5, xf0, xf1, xf2, xf3, xf4, xf5⟩ := HX.out.c6) | (with_reducible refine ((HS2.out _ HV1.out HPT.out (ENV.out.below HB.out)).mono ?_); rintro e w' ⟨rfl, hb⟩; replace HX := Lib.hid (HX.out.keep hb); clear x0 x1 x2 x3 x4 x5 xf0 xf1 xf2 xf3 xf4 xf5; replace HPT := Lib.hid (PtsAt.below HPT.out hb); replace HV1 := Lib.hid (RunsAt.kept HV1.out hb); replace HB := Lib.hid (bch' HB.out hb); clear hb; obtain ⟨x0, x1, x2, x3, x4, x5, xf0, xf1, xf2, xf3, xf4, xf5⟩ := HX.out.c6))
  go_ret
  exact ⟨rfl, HB.out⟩
end Go.Proofs.YtbamcfhmkohbmaaGreatDoor
namespace Lum
open Go Go.RowKit Go.Shelf
open Go.Lib (decDigits itoa)
/-- An offset of one effect that runs alone. -/
theorem suE_alone {x : Efx} {cs : List Int} {t0 t : Int} {i : Nat} (h : trB x cs = true) (hi : i < cs.length) (h0 : 0 ≤ t0) (h1 : t0 ≤ t) (h2 : t ≤ 10000000) : suE [x] [newR x.nu cs t0] t (inI cs i) x.at_ = (showR (offQ x i cs.length (100 * (t - t0))), 0) := by
  obtain ⟨e1, e2, e3, e4⟩ := trB_on h
  have ho := efOk e1
  have hr := (chOk e3).rng i hi
  rw [suE_one e1 (rnE_newR e3 e4 (by omega)) (paE_in (by have := ho.at_; omega)) (mo_new h0 h1 h2), toldQ_one (r := newR x.nu cs t0) rfl rfl (mem_at e3 hi)]
  dsimp only [newR]
  rw [sh_new h1]
theorem periods_eq {x : Efx} {cs : List Int} {t0 t m : Int} {i : Nat} (h : trB x cs = true) (hi : i < cs.length) (h0 : 0 ≤ t0) (h1 : t0 ≤ t) (hm : 0 ≤ m * x.pe) (h2 : t + m * x.pe ≤ 10000000) : suE [x] [newR x.nu cs t0] (t + m * x.pe) (inI cs i) x.at_ = (showR (offQ x i cs.length (100 * (t - t0))), 0) := by
  rw [suE_alone h hi h0 (by omega) h2]
  have e : 100 * (t + m * x.pe - t0) = 100 * (t - t0) + 100 * x.pe * m := by
    have : 100 * x.pe * m = 100 * (m * x.pe) := by rw [Int.mul_assoc, Int.mul_comm x.pe]
    omega
  rw [e, offQ_again (efOk (trB_on h).1)]
end Lum
namespace Go.Proofs.YtbamcfhmkohbmaaGreatDoor
open Go.RowKit Go.Shelf Lum
open Go.Lib (decDigits itoa)
attribute [local go_sem] bs_get bs_extract_end bs_extract_from bs_extract bs_append

set_option maxRecDepth 100000 in
set_option maxHeartbeats 8000000 in
theorem law_periods (x : Efx × Sl3) (u0 u1 u2 : Int) (cs : List Int) (p : Option Addr) (c : Nat) (w : World) (hv : PtsAt w (.slice x.2.1 x.2.2.1 x.2.2.2) x.1.wv) (hi : IntsAt w (.slice p cs.length c) cs) (hcap : cs.length ≤ c) (hu0 : 0 ≤ u0 ∧ u0 ≤ 65535) (hu1 : 0 ≤ u1 ∧ u1 ≤ 65535) (hu2 : 0 ≤ u2 ∧ u2 ≤ 65535) (env : Env w) :
    Calls Tryz.prog 11 #[.agg #[.int .i64 (x.1.nu), .int .i64 (x.1.at_), .slice x.2.1 x.2.2.1 x.2.2.2, .int .i64 (x.1.pe), .int .i64 (x.1.sp), .int .i64 (x.1.sz)], .slice p cs.length c, .agg #[.int .u16 u0, .int .u16 u1, .int .u16 u2]] w fun e w' => e = .returned (.bool (true)) ∧ Below w.heap.size w w' := by
  have ENV := Lib.hid env; clear env
  have hal := ((Below.refl w.heap.size w).alloc (Nat.le_refl _) (.cells #[.int .i64 (x.1.nu), .int .i64 (x.1.at_), .slice x.2.1 x.2.2.1 x.2.2.2, .int .i64 (x.1.pe), .int .i64 (x.1.sp), .int .i64 (x.1.sz)] 36)).alloc (by simp) (.cells #[.int .u16 u0, .int .u16 u1, .int .u16 u2] 102)
  have HV := Lib.hid (PtsAt.below hv hal); have HI := Lib.hid (IntsAt.below hi hal); have HB := Lib.hid hal; clear hal
  have HK := Lib.hid ((Blk.new w 36 #[.int .i64 (x.1.nu), .int .i64 (x.1.at_), .slice x.2.1 x.2.2.1 x.2.2.2, .int .i64 (x.1.pe), .int .i64 (x.1.sp), .int .i64 (x.1.sz)]).alloc (.cells #[.int .u16 u0, .int .u16 u1, .int .u16 u2] 102))
  have hA := Blk.new (w.alloc (.cells #[.int .i64 (x.1.nu), .int .i64 (x.1.at_), .slice x.2.1 x.2.2.1 x.2.2.2, .int .i64 (x.1.pe), .int .i64 (x.1.sp), .int .i64 (x.1.sz)] 36)) 102 #[.int .u16 u0, .int .u16 u1, .int .u16 u2]
  rw [World.size_alloc] at hA
  have HA := Lib.hid hA; clear hA
  obtain ⟨k0, k1, k2, k3, k4, k5, kf0, kf1, kf2, kf3, kf4, kf5⟩ := HK.out.c6
  obtain ⟨a0, a1, a2, af0, af1, af2⟩ := HA.out.c3
  have c0 : IntKind.i64.wrap u0 = u0 := IntWalk.i64_in _ (by omega)
  have c1 : IntKind.i64.wrap u1 = u1 := IntWalk.i64_in _ (by omega)
  have c2 : IntKind.i64.wrap u2 = u2 := IntWalk.i64_in _ (by omega)
  have hte := fun W (e : Env W) => top_tryEffects W e
  have hw0 : wiB u0 0 10000000 = true := (wiB_iff _ _ _).2 (by omega)
  have htr := fun W (h : PtsAt W (.slice x.2.1 x.2.2.1 x.2.2.2) x.1.wv) (h2 : IntsAt W (.slice p cs.length c) cs) => top_tryRun x u0 cs p c W h h2 hcap
  rw [hw0, Bool.and_true] at htr
  clear hw0
  have c4 : IntKind.i64.wrap (u2 % 4) = u2 % 4 := IntWalk.i64_in _ (by omega)
  cases ht : trB x.1 cs
  · rw [ht] at htr
    clear hcap hv hi
    have HTE := Lib.hid hte; clear hte
    have HTR := Lib.hid htr; clear htr
    go_enter Tryz.func11, Tryz.ntmps11
    go_wp2_with (first | (with_reducible refine ((HTR.out _ HV.out HI.out).mono ?_); rintro e w2 ⟨v, rfl, hv1, hb⟩; replace HK := Lib.hid (HK.out.keep hb); clear k0 k1 k2 k3 k4 k5 kf0 kf1 kf2 kf3 kf4 kf5; replace HA := Lib.hid (HA.out.keep hb); clear a0 a1 a2 af0 af1 af2; replace HV := Lib.hid (PtsAt.below HV.out hb); replace HI := Lib.hid (IntsAt.below HI.out hb); replace HB := Lib.hid (bch' HB.out hb); clear hb; obtain ⟨k0, k1, k2, k3, k4, k5, kf0, kf1, kf2, kf3, kf4, kf5⟩ := HK.out.c6; obtain ⟨a0, a1, a2, af0, af1, af2⟩ := HA.out.c3) | (with_reducible refine ((HTE.out _ (ENV.out.below HB.out)).mono ?_); rintro e w' ⟨rfl, hb⟩; replace HK := Lib.hid (HK.out.keep hb); clear k0 k1 k2 k3 k4 k5 kf0 kf1 kf2 kf3 kf4 kf5; replace HA := Lib.hid (HA.out.keep hb); clear a0 a1 a2 af0 af1 af2; replace HV := Lib.hid (PtsAt.below HV.out hb); replace HI := Lib.hid (IntsAt.below HI.out hb); replace HB := Lib.hid (bch' HB.out hb); clear hb; obtain ⟨k0, k1, k2, k3, k4, k5, kf0, kf1, kf2, kf3, kf4, kf5⟩ := HK.out.c6; obtain ⟨a0, a1, a2, af0, af1, af2⟩ := HA.out.c3))
    go_ret
    exact ⟨rfl, HB.out⟩
  · obtain ⟨t1, t2, t3, t4⟩ := trB_on ht
    have hp := (efOk t1).pe
    have m0 : 0 ≤ u2 % 4 * x.1.pe := Int.mul_nonneg (by omega) (by omega)
    have m1 : u2 % 4 * x.1.pe ≤ 3 * 10000000 := Int.mul_le_mul (by omega) hp.2 (by omega) (by omega)
    have m2 : IntKind.i64.wrap (u2 % 4 * x.1.pe) = u2 % 4 * x.1.pe := IntWalk.i64_in _ (by omega)
    have c3 : IntKind.i64.wrap (u0 + u1) = u0 + u1 := IntWalk.i64_in _ (by omega)
    have m3 : IntKind.i64.wrap (u0 + u1 + u2 % 4 * x.1.pe) = u0 + u1 + u2 % 4 * x.1.pe := IntWalk.i64_in _ (by omega)
    have HT := Lib.hid ht
    rw [ht] at htr
    have HM0 := Lib.hid m0
    clear t1 t3 t4 hp m0 m1 ht hcap hv
    by_cases hM : 10000000 < u0 + u1 + u2 % 4 * x.1.pe
    · clear hi
      have HTE := Lib.hid hte; clear hte
      have HTR := Lib.hid htr; clear htr
      go_enter Tryz.func11, Tryz.ntmps11
      go_wp2_with (first | (with_reducible refine ((HTR.out _ HV.out HI.out).mono ?_); rintro e w2 ⟨v, rfl, hv1, hb⟩; replace HK := Lib.hid (HK.out.keep hb); clear k0 k1 k2 k3 k4 k5 kf0 kf1 kf2 kf3 kf4 kf5; replace HA := Lib.hid (HA.out.keep hb); clear a0 a1 a2 af0 af1 af2; replace HV := Lib.hid (PtsAt.below HV.out hb); replace HI := Lib.hid (IntsAt.below HI.out hb); replace HB := Lib.hid (bch' HB.out hb); clear hb; obtain ⟨k0, k1, k2, k3, k4, k5, kf0, kf1, kf2, kf3, kf4, kf5⟩ := HK.out.c6; obtain ⟨a0, a1, a2, af0, af1, af2⟩ := HA.out.c3) | (with_reducible refine ((HTE.out _ (ENV.out.below HB.out)).mono ?_); rintro e w' ⟨rfl, hb⟩; replace HK := Lib.hid (HK.out.keep hb); clear k0 k1 k2 k3 k4 k5 kf0 kf1 kf2 kf3 kf4 kf5; replace HA := Lib.hid (HA.out.keep hb); clear a0 a1 a2 af0 af1 af2; replace HV := Lib.hid (PtsAt.below HV.out hb); replace HI := Lib.hid (IntsAt.below HI.out hb); replace HB := Lib.hid (bch' HB.out hb); clear hb; obtain ⟨k0, k1, k2, k3, k4, k5, kf0, kf1, kf2, kf3, kf4, kf5⟩ := HK.out.c6; obtain ⟨a0, a1, a2, af0, af1, af2⟩ := HA.out.c3))
      go_ret
      exact ⟨rfl, HB.out⟩
    · have hM1 : u0 + u1 + u2 % 4 * x.1.pe ≤ 10000000 := by omega
      have HTE := Lib.hid hte; clear hte
      have HTR := Lib.hid htr; clear htr
      go_enter Tryz.func11, Tryz.ntmps11
      have HII0 := Lib.hid hi
      go_upto_region 7 with (first | (with_reducible refine ((HTR.out _ HV.out HI.out).mono ?_); rintro e w2 ⟨v, rfl, hv1, hb⟩; replace HK := Lib.hid (HK.out.keep hb); clear k0 k1 k2 k3 k4 k5 kf0 kf1 kf2 kf3 kf4 kf5; replace HA := Lib.hid (HA.out.keep hb); clear a0 a1 a2 af0 af1 af2; replace HV := Lib.hid (PtsAt.below HV.out hb); replace HI := Lib.hid (IntsAt.below HI.out hb); replace HB := Lib.hid (bch' HB.out hb); clear hb; obtain ⟨k0, k1, k2, k3, k4, k5, kf0, kf1, kf2, kf3, kf4, kf5⟩ := HK.out.c6; obtain ⟨a0, a1, a2, af0, af1, af2⟩ := HA.out.c3))
      have hb := (Below.refl w2.heap.size w2).alloc (Nat.le_refl _) (.cells #[.int .i64 (x.1.nu), .int .i64 (x.1.at_), .slice x.2.1 x.2.2.1 x.2.2.2, .int .i64 (x.1.pe), .int .i64 (x.1.sp), .int .i64 (x.1.sz)] 36)
      have HN := Lib.hid (hv1 (by trivial))
      have HL := Lib.hid (efsAt_one (c := 1) (Blk.new w2 36 (encE x).toArray) (HV.out.below hb))
      obtain ⟨gl, hgl⟩ : ∃ g, g = w2.heap.size := ⟨_, rfl⟩
      obtain ⟨W3, hW3⟩ : ∃ X, X = w2.alloc (.cells #[.int .i64 (x.1.nu), .int .i64 (x.1.at_), .slice x.2.1 x.2.2.1 x.2.2.2, .int .i64 (x.1.pe), .int .i64 (x.1.sp), .int .i64 (x.1.sz)] 36) := ⟨_, rfl⟩
      change Hid (EfsAt (w2.alloc (.cells #[.int .i64 (x.1.nu), .int .i64 (x.1.at_), .slice x.2.1 x.2.2.1 x.2.2.2, .int .i64 (x.1.pe), .int .i64 (x.1.sp), .int .i64 (x.1.sz)] 36)) (.slice (some ⟨w2.heap.size, 0, none⟩) 1 1) [x.1]) at HL
      rw [← hgl] at HL ⊢
      rw [← hW3] at hb HL ⊢
      replace HN := Lib.hid (RunsAt.kept HN.out hb)
      replace HK := Lib.hid (HK.out.keep hb); clear k0 k1 k2 k3 k4 k5 kf0 kf1 kf2 kf3 kf4 kf5; replace HA := Lib.hid (HA.out.keep hb); clear a0 a1 a2 af0 af1 af2; replace HB := Lib.hid (bch' HB.out hb); clear hb; obtain ⟨k0, k1, k2, k3, k4, k5, kf0, kf1, kf2, kf3, kf4, kf5⟩ := HK.out.c6; obtain ⟨a0, a1, a2, af0, af1, af2⟩ := HA.out.c3
      clear hW3 hgl HV HI hv1
      obtain ⟨p9, c9, e9, hii⟩ := HII0.out
      injection e9 with e91 e92 e93
      subst e91 e93
      have HII := Lib.hid hii; clear hii HII0 hi e92
      have hlen : cs.length ≤ 6 := t2
      go_wp2_with fail
      go_loopw [55] (fun s55 wr => ∃ i r : Nat, s55 = .int .i64 (i : Int) ∧ Hid (i + r = cs.length) ∧ Hid (Below w.heap.size w wr) ∧ Hid (Blk wr w.heap.size 36 #[.int .i64 (x.1.nu), .int .i64 (x.1.at_), .slice x.2.1 x.2.2.1 x.2.2.2, .int .i64 (x.1.pe), .int .i64 (x.1.sp), .int .i64 (x.1.sz)]) ∧ Hid (EfsAt wr (.slice (some ⟨gl, 0, none⟩) 1 1) [x.1]) ∧ Hid (RunsAt wr v [newR x.1.nu cs u0])) (fun s55 _ => cs.length - (intOf s55).toNat)
      case atStart => exact ⟨0, cs.length, rfl, Lib.hid (by omega), HB, HK, HL, HN⟩
      case round =>
        clear HB HK HL HN k0 k1 k2 k3 k4 k5 kf0 kf1 kf2 kf3 kf4 kf5
        obtain ⟨i, r, rfl, hkr, HB, HK, HL, HN⟩ := hrel
        obtain ⟨k0, k1, k2, k3, k4, k5, kf0, kf1, kf2, kf3, kf4, kf5⟩ := HK.out.c6
        cases r with
        | zero =>
          have hlt : ¬ (i : Int) < (cs.length : Int) := by have := hkr.out; omega
          go_wp2_with (first | (with_reducible refine ((HTE.out _ (ENV.out.below HB.out)).mono ?_); rintro e w' ⟨rfl, hb⟩; replace HK := Lib.hid (HK.out.keep hb); clear k0 k1 k2 k3 k4 k5 kf0 kf1 kf2 kf3 kf4 kf5; replace HL := Lib.hid (EfsAt.kept HL.out hb); replace HN := Lib.hid (RunsAt.kept HN.out hb); replace HB := Lib.hid (bch' HB.out hb); clear hb; obtain ⟨k0, k1, k2, k3, k4, k5, kf0, kf1, kf2, kf3, kf4, kf5⟩ := HK.out.c6))
          go_ret
          exact ⟨rfl, HB.out⟩
        | succ r =>
          have hkl : i < cs.length := by have := hkr.out; omega
          have hlt : (i : Int) < (cs.length : Int) := by omega
          have hi0 : (0 : Int) ≤ (i : Int) := by omega
          have hun : IntKind.i64.wrap ((i : Int) + 1) = (i : Int) + 1 := IntWalk.i64_in _ (by omega)
          obtain ⟨bb, oo, rfl, hbb, hCC⟩ := HII.out (fun e => by subst e; exact absurd hkl (Nat.not_lt_zero _))
          have x0 : wr.cell? ⟨bb, oo + i, none⟩ = some (.int .i64 (inI cs i)) := (HB.out.cell (p := ⟨bb, oo + i, none⟩) hbb).trans (hCC i hkl)
          have hbr : bb < wr.heap.size := by have := HB.out.size; omega
          clear hCC hbb
          have hsa := fun W (h1 : EfsAt W (.slice (some ⟨gl, 0, none⟩) 1 1) [x.1]) (h2 : RunsAt W v [newR x.1.nu cs u0]) (e : Env W) => own_esum [x.1] [newR x.1.nu cs u0] (.slice (some ⟨gl, 0, none⟩) 1 1) v (u0 + u1) (inI cs i) x.1.at_ W h1 h2 e
          rw [suE_alone HT.out hkl hu0.1 (by omega) (by omega)] at hsa
          have hsb := fun W (h1 : EfsAt W (.slice (some ⟨gl, 0, none⟩) 1 1) [x.1]) (h2 : RunsAt W v [newR x.1.nu cs u0]) (e : Env W) => own_esum [x.1] [newR x.1.nu cs u0] (.slice (some ⟨gl, 0, none⟩) 1 1) v (u0 + u1 + u2 % 4 * x.1.pe) (inI cs i) x.1.at_ W h1 h2 e
          rw [periods_eq HT.out hkl hu0.1 (by omega) HM0.out hM1] at hsb
          dsimp only at hsa hsb
          generalize showR (offQ x.1 (i : Int) cs.length (100 * (u0 + u1 - u0))) = q at *
          have HSA := Lib.hid hsa; clear hsa
          have HSB := Lib.hid hsb; clear hsb
          go_upto_region 11 with fail
          have hb := (Below.refl wr.heap.size wr).alloc (Nat.le_refl _) (.cells #[.int .i64 (inI cs i), .int .i64 (x.1.at_)] 61)
          have HP := Lib.hid (Blk.new wr 61 #[.int .i64 (inI cs i), .int .i64 (x.1.at_)])
          obtain ⟨W5, hW5⟩ : ∃ X, X = wr.alloc (.cells #[.int .i64 (inI cs i), .int .i64 (x.1.at_)] 61) := ⟨_, rfl⟩
          obtain ⟨g5, hg5⟩ : ∃ g, g = wr.heap.size := ⟨_, rfl⟩
          rw [← hW5] at hb HP ⊢
          rw [← hg5] at HP ⊢
          replace HK := Lib.hid (HK.out.keep hb); clear k0 k1 k2 k3 k4 k5 kf0 kf1 kf2 kf3 kf4 kf5; replace HL := Lib.hid (EfsAt.kept HL.out hb); replace HN := Lib.hid (RunsAt.kept HN.out hb); replace HB := Lib.hid (bch' HB.out hb); clear hb; obtain ⟨k0, k1, k2, k3, k4, k5, kf0, kf1, kf2, kf3, kf4, kf5⟩ := HK.out.c6
          clear hW5 hg5
          obtain ⟨b0, b1, bf0, bf1⟩ := HP.out.c2
          generalize inI cs i = z at *
          go_wp2_with (first | (with_reducible refine ((HSA.out _ HL.out HN.out (ENV.out.below HB.out)).mono ?_); rintro e w' ⟨rfl, hb⟩; replace HK := Lib.hid (HK.out.keep hb); clear k0 k1 k2 k3 k4 k5 kf0 kf1 kf2 kf3 kf4 kf5; replace HP := Lib.hid (HP.out.keep hb); clear b0 b1 bf0 bf1; replace HL := Lib.hid (EfsAt.kept HL.out hb); replace HN := Lib.hid (RunsAt.kept HN.out hb); replace HB := Lib.hid (bch' HB.out hb); clear hb; obtain ⟨k0, k1, k2, k3, k4, k5, kf0, kf1, kf2, kf3, kf4, kf5⟩ := HK.out.c6; obtain ⟨b0, b1, bf0, bf1⟩ := HP.out.c2) | (with_reducible refine ((HSB.out _ HL.out HN.out (ENV.out.below HB.out)).mono ?_); rintro e w' ⟨rfl, hb⟩; replace HK := Lib.hid (HK.out.keep hb); clear k0 k1 k2 k3 k4 k5 kf0 kf1 kf2 kf3 kf4 kf5; replace HP := Lib.hid (HP.out.keep hb); clear b0 b1 bf0 bf1; replace HL := Lib.hid (EfsAt.kept HL.out hb); replace HN := Lib.hid (RunsAt.kept HN.out hb); replace HB := Lib.hid (bch' HB.out hb); clear hb; obtain ⟨k0, k1, k2, k3, k4, k5, kf0, kf1, kf2, kf3, kf4, kf5⟩ := HK.out.c6; obtain ⟨b0, b1, bf0, bf1⟩ := HP.out.c2))
          go_roundw
          case rel => exact ⟨i + 1, r, by first | rfl | simp, Lib.hid (by have := hkr.out; omega), HB, HK, HL, HN⟩
          case measure => first | (simp [intOf]; done) | (simp [intOf]; omega)
end Go.Proofs.YtbamcfhmkohbmaaGreatDoor
