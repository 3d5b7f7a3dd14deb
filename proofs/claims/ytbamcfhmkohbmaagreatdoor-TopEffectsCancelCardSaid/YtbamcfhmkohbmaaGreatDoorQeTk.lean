/-
  Top, effects: plain facts of one effect that runs alone. Top: tryRun, tryEffects; the law TopEffectsPeriods. Top: the law TopEffectsCancel.
-/
import Derived.Test.YtbamcfhmkohbmaaGreatDoorQeYi
import Derived.Test.YtbamcfhmkohbmaaGreatDoorYf
import Derived.Test.YtbamcfhmkohbmaaGreatDoorQeYr
import Derived.Test.YtbamcfhmkohbmaaGreatDoorQeWq
set_option linter.unusedVariables false
set_option linter.unusedSimpArgs false
namespace Lum
open Go Go.RowKit Go.Shelf
open Go.Lib (decDigits itoa)
theorem runsAt_nil (w : World) : RunsAt w (.slice none 0 0) [] := ⟨[], none, 0, rfl, rfl, fun h => absurd rfl h, fun x hx => by cases hx⟩
theorem efsAt_one {w : World} {g : Nat} {t : TypeId} {x : Efx × Sl3} {c : Nat} (h : Blk w g t (encE x).toArray) (hx : PtsAt w (.slice x.2.1 x.2.2.1 x.2.2.2) x.1.wv) : EfsAt w (.slice (some ⟨g, 0, none⟩) 1 c) [x.1] := by
  refine ⟨[x], some ⟨g, 0, none⟩, c, rfl, rfl, fun _ => ⟨g, 0, rfl, h.lt, fun i hi j u hu => ?_⟩, fun y hy => ?_⟩
  · obtain rfl : i = 0 := by simp at hi; omega
    have := h.cell j
    rw [Nat.zero_mul, Nat.zero_add, this]
    simpa using hu
  · obtain rfl := List.mem_singleton.1 hy; exact hx
theorem putL_nil (x : Rnx) : putL [] x = [x] := rfl
/-- What tryRun asks. -/
def trB (x : Efx) (cs : List Int) : Bool := decide (efE x = 0) && decide (cs.length ≤ 6) && decide (rnE ⟨x.nu, cs, 0, 1, 0, 0⟩ = 0)
theorem trB_on {x : Efx} {cs : List Int} (h : trB x cs = true) : efE x = 0 ∧ cs.length ≤ 6 ∧ chE cs = 0 ∧ (1 ≤ x.nu ∧ x.nu ≤ 1048576) := by
  unfold trB at h
  simp only [Bool.and_eq_true, decide_eq_true_eq] at h
  have h3 := rnOk h.2
  refine ⟨h.1.1, h.1.2, ?_, h3.ef⟩
  have h4 := h.2
  by_cases hc : chE cs = 0
  · exact hc
  · have ho : ¬ (x.nu < 1 ∨ 1048576 < x.nu) := by have := h3.ef; dsimp only at this; omega
    rw [rnE_ch (x := ⟨x.nu, cs, 0, 1, 0, 0⟩) ho hc] at h4
    exact absurd h4 hc
theorem rnE_newR {n t : Int} {cs : List Int} (h : chE cs = 0) (hn : 1 ≤ n ∧ n ≤ 1048576) (ht : 0 ≤ t ∧ t ≤ 10000000) : rnE (newR n cs t) = 0 := by
  rw [rnE_ck (x := newR n cs t) (by dsimp only [newR]; omega) h]
  unfold ckE
  rw [if_pos ((ckB_iff _ _ _ _).2 (by dsimp only [newR]; omega))]
theorem stE_zero {n t : Int} {cs : List Int} (h : chE cs = 0) (hn : 1 ≤ n ∧ n ≤ 1048576) (ht : 0 ≤ t ∧ t ≤ 10000000) : stE [] n cs t = 0 :=
  stE_ok rfl ((wiB_iff _ _ _).2 ht) (rnE_newR h hn ht) (by rw [putL_nil]; simp)
theorem sumQ_one (L : List Efx) (x : Rnx) (t ch a : Int) : sumQ L [x] t ch a = toldQ L x t ch a := by unfold sumQ; simp [Rat.zero_add]
theorem efs_one {x : Efx} (h : efE x = 0) : OrdOk efE (·.nu) [x] := ⟨by simp, fun j hj => by obtain rfl : j = 0 := (by simp at hj; omega); exact h, List.pairwise_singleton _ _⟩
theorem rns_one {x : Rnx} (h : rnE x = 0) : OrdOk rnE (·.ef) [x] := ⟨by simp, fun j hj => by obtain rfl : j = 0 := (by simp at hj; omega); exact h, List.pairwise_singleton _ _⟩
theorem suE_one {x : Efx} {r : Rnx} {t ch a : Int} (hx : efE x = 0) (hr : rnE r = 0) (hp : paE ch a = 0) (ht : moE r.ce r.cr r.cd r.cl t = 0) : suE [x] [r] t ch a = (showR (toldQ [x] r t ch a), 0) := by
  have h1 : efsE [x] = 0 := ordE_of (efs_one hx)
  have h2 : rnsE [r] = 0 := ordE_of (rns_one hr)
  rw [suE_ok (by rw [pbE_pa (by rw [boE_rn h1]; exact h2)]; exact hp) (atF_zero fun y hy => by obtain rfl := List.mem_singleton.1 hy; exact ht), sumQ_one]
theorem toldQ_one {x : Efx} {r : Rnx} {t ch a : Int} (hn : x.nu = r.ef) (ha : x.at_ = a) {i : Nat} (hm : memI r.cs ch = (i : Int)) : toldQ [x] r t ch a = offQ x i r.cs.length (shZ r.ce r.cr r.cd r.cl t) := by
  have hf : [x].find? (fun y => y.nu == r.ef) = some x := by simp [hn]
  rw [toldQ_some hf, if_neg (by rw [hm]; intro e; rcases e with e | e; omega; exact e ha), hm]
theorem mo_new {t0 t : Int} (h0 : 0 ≤ t0) (h1 : t0 ≤ t) (h2 : t ≤ 10000000) : moE 0 100 1 t0 t = 0 := by
  unfold moE
  rw [if_neg (by rw [(ckB_iff 0 100 1 t0).2 (by omega)]; decide), if_neg (by rw [(wiB_iff t 0 10000000).2 (by omega)]; decide), if_neg (by omega)]
theorem sh_new {t0 t : Int} (h1 : t0 ≤ t) : shZ 0 100 1 t0 t = 100 * (t - t0) := by unfold shZ; omega
theorem mem_at {cs : List Int} (h : chE cs = 0) {i : Nat} (hi : i < cs.length) : memI cs (inI cs i) = (i : Int) := by
  refine mem_found hi rfl (fun j hj e => ?_)
  have h2 := (chOk h).nd i hi
  have h3 : (cs.take i).contains (inI cs i) = true := has_take hj hi e
  rw [h2] at h3
  exact absurd h3 (by decide)
/-- An example. -/
def exX : Efx := ⟨1, 0, [(0, 0), (500, 1000), (1000, 0)], 100, 1000, 80⟩
end Lum
namespace Go.Proofs.YtbamcfhmkohbmaaGreatDoor
open Go.RowKit Go.Shelf Lum
open Go.Lib (decDigits itoa)
attribute [local go_sem] bs_get bs_extract_end bs_extract_from bs_extract bs_append

set_option maxRecDepth 100000 in
set_option maxHeartbeats 8000000 in
theorem top_tryRun (x : Efx × Sl3) (t : Int) (cs : List Int) (p : Option Addr) (c : Nat) (w : World) (hv : PtsAt w (.slice x.2.1 x.2.2.1 x.2.2.2) x.1.wv) (hi : IntsAt w (.slice p cs.length c) cs) (hcap : cs.length ≤ c) :
    Calls Tryz.prog 54 #[.agg #[.int .i64 (x.1.nu), .int .i64 (x.1.at_), .slice x.2.1 x.2.2.1 x.2.2.2, .int .i64 (x.1.pe), .int .i64 (x.1.sp), .int .i64 (x.1.sz)], .slice p cs.length c, .int .i64 t] w fun e w' => ∃ v, e = .returned (.tuple #[v, .bool (trB x.1 cs && wiB t 0 10000000)]) ∧ ((trB x.1 cs && wiB t 0 10000000) = true → RunsAt w' v [newR x.1.nu cs t]) ∧ Below w.heap.size w w' := by
  have hef := fun W (h : PtsAt W (.slice x.2.1 x.2.2.1 x.2.2.2) x.1.wv) => r28_effect x.1.nu x.1.at_ x.1.pe x.1.sp x.1.sz x.1.wv x.2.1 x.2.2.1 x.2.2.2 W h
  change ∀ W, PtsAt W (.slice x.2.1 x.2.2.1 x.2.2.2) x.1.wv → Calls _ _ _ _ (fun e w' => e = .returned (.int .i64 (efE x.1)) ∧ _) at hef
  have hrn := fun W (h : IntsAt W (.slice p cs.length c) cs) => r28_run x.1.nu 0 1 0 0 cs p cs.length c W h
  have hal := (Below.refl w.heap.size w).alloc (Nat.le_refl _) (.cells #[.int .i64 (x.1.nu), .int .i64 (x.1.at_), .slice x.2.1 x.2.2.1 x.2.2.2, .int .i64 (x.1.pe), .int .i64 (x.1.sp), .int .i64 (x.1.sz)] 36)
  have HV := Lib.hid (PtsAt.below hv hal); have HI := Lib.hid (IntsAt.below hi hal); clear hal
  have HK := Lib.hid (Blk.new w 36 #[.int .i64 (x.1.nu), .int .i64 (x.1.at_), .slice x.2.1 x.2.2.1 x.2.2.2, .int .i64 (x.1.pe), .int .i64 (x.1.sp), .int .i64 (x.1.sz)])
  have HB := Lib.hid ((Below.refl w.heap.size w).alloc (Nat.le_refl _) (.cells #[.int .i64 (x.1.nu), .int .i64 (x.1.at_), .slice x.2.1 x.2.2.1 x.2.2.2, .int .i64 (x.1.pe), .int .i64 (x.1.sp), .int .i64 (x.1.sz)] 36))
  obtain ⟨k0, k1, k2, k3, k4, k5, kf0, kf1, kf2, kf3, kf4, kf5⟩ := HK.out.c6
  by_cases h1 : efE x.1 = 0
  · by_cases h2 : cs.length ≤ 6
    · by_cases h3 : rnE ⟨x.1.nu, cs, 0, 1, 0, 0⟩ = 0
      · have htr : trB x.1 cs = true := by unfold trB; rw [decide_eq_true h1, decide_eq_true h2, decide_eq_true h3]; rfl
        obtain ⟨t1, t2, t3, t4⟩ := trB_on htr
        rw [h1] at hef
        rw [h3] at hrn
        have hst := fun W (h : IntsAt W (.slice p cs.length c) cs) => own_estart [] (.slice none 0 0) x.1.nu t cs p cs.length c W (runsAt_nil W) h hcap (by omega)
        have h2n : ¬ (6 : Int) < (cs.length : Int) := by omega
        by_cases ht : 0 ≤ t ∧ t ≤ 10000000
        · rw [stE_zero t3 t4 ht] at hst
          have HW : Hid ((trB x.1 cs && wiB t 0 10000000) = true) := Lib.hid (by rw [htr, (wiB_iff t 0 10000000).2 ht]; rfl)
          clear htr t1 t3 t4 h1 h2 h3 hv hi hcap
          have HEF := Lib.hid hef; clear hef
          have HRN := Lib.hid hrn; clear hrn
          have HST := Lib.hid hst; clear hst
          go_enter Tryz.func54, Tryz.ntmps54
          go_upto_region 3 with (first | (with_reducible refine ((HEF.out _ HV.out).mono ?_); rintro e w' ⟨rfl, hb⟩; replace HK := Lib.hid (HK.out.keep hb); clear k0 k1 k2 k3 k4 k5 kf0 kf1 kf2 kf3 kf4 kf5; replace HV := Lib.hid (PtsAt.below HV.out hb); replace HI := Lib.hid (IntsAt.below HI.out hb); replace HB := Lib.hid (bch' HB.out hb); clear hb; obtain ⟨k0, k1, k2, k3, k4, k5, kf0, kf1, kf2, kf3, kf4, kf5⟩ := HK.out.c6) | (with_reducible refine ((HRN.out _ HI.out).mono ?_); rintro e w' ⟨rfl, hb⟩; replace HK := Lib.hid (HK.out.keep hb); clear k0 k1 k2 k3 k4 k5 kf0 kf1 kf2 kf3 kf4 kf5; replace HV := Lib.hid (PtsAt.below HV.out hb); replace HI := Lib.hid (IntsAt.below HI.out hb); replace HB := Lib.hid (bch' HB.out hb); clear hb; obtain ⟨k0, k1, k2, k3, k4, k5, kf0, kf1, kf2, kf3, kf4, kf5⟩ := HK.out.c6))
          go_wp2_with fail
          refine ((HST.out _ HI.out).mono ?_)
          rintro e w9 ⟨v, rfl, hv1, -, hb⟩
          replace HK := Lib.hid (HK.out.keep hb); clear k0 k1 k2 k3 k4 k5 kf0 kf1 kf2 kf3 kf4 kf5; replace HV := Lib.hid (PtsAt.below HV.out hb); replace HI := Lib.hid (IntsAt.below HI.out hb); replace HB := Lib.hid (bch' HB.out hb); clear hb; obtain ⟨k0, k1, k2, k3, k4, k5, kf0, kf1, kf2, kf3, kf4, kf5⟩ := HK.out.c6
          have HV1 := Lib.hid (hv1 rfl); clear hv1 HST
          obtain ⟨M, pm, cm, rfl, hM, hMR, hMC⟩ := HV1.out
          have hml : M.length = 1 := by have := congrArg List.length hM; rw [List.length_map, putL_nil] at this; exact this
          rw [hml] at HV1 ⊢
          clear hM hMR hMC
          go_wp2_with fail
          go_ret2
          exact ⟨_, by rw [HW.out]; rfl, fun _ => HV1.out, HB.out⟩
        · have hwi : wiB t 0 10000000 = false := by have := mt (wiB_iff t 0 10000000).1 ht; simpa using this
          rw [stE_time rfl hwi] at hst
          have HW : Hid ((trB x.1 cs && wiB t 0 10000000) = false) := Lib.hid (by rw [hwi]; simp)
          clear htr t1 t3 t4 h1 h2 h3 hv hi hcap
          have HEF := Lib.hid hef; clear hef
          have HRN := Lib.hid hrn; clear hrn
          have HST := Lib.hid hst; clear hst
          go_enter Tryz.func54, Tryz.ntmps54
          go_upto_region 3 with (first | (with_reducible refine ((HEF.out _ HV.out).mono ?_); rintro e w' ⟨rfl, hb⟩; replace HK := Lib.hid (HK.out.keep hb); clear k0 k1 k2 k3 k4 k5 kf0 kf1 kf2 kf3 kf4 kf5; replace HV := Lib.hid (PtsAt.below HV.out hb); replace HI := Lib.hid (IntsAt.below HI.out hb); replace HB := Lib.hid (bch' HB.out hb); clear hb; obtain ⟨k0, k1, k2, k3, k4, k5, kf0, kf1, kf2, kf3, kf4, kf5⟩ := HK.out.c6) | (with_reducible refine ((HRN.out _ HI.out).mono ?_); rintro e w' ⟨rfl, hb⟩; replace HK := Lib.hid (HK.out.keep hb); clear k0 k1 k2 k3 k4 k5 kf0 kf1 kf2 kf3 kf4 kf5; replace HV := Lib.hid (PtsAt.below HV.out hb); replace HI := Lib.hid (IntsAt.below HI.out hb); replace HB := Lib.hid (bch' HB.out hb); clear hb; obtain ⟨k0, k1, k2, k3, k4, k5, kf0, kf1, kf2, kf3, kf4, kf5⟩ := HK.out.c6))
          go_wp2_with fail
          refine ((HST.out _ HI.out).mono ?_)
          rintro e w9 ⟨v, rfl, -, hv1, hb⟩
          replace HK := Lib.hid (HK.out.keep hb); clear k0 k1 k2 k3 k4 k5 kf0 kf1 kf2 kf3 kf4 kf5; replace HV := Lib.hid (PtsAt.below HV.out hb); replace HI := Lib.hid (IntsAt.below HI.out hb); replace HB := Lib.hid (bch' HB.out hb); clear hb; obtain ⟨k0, k1, k2, k3, k4, k5, kf0, kf1, kf2, kf3, kf4, kf5⟩ := HK.out.c6
          obtain rfl := hv1 (by decide)
          clear HST
          go_wp2_with fail
          go_ret2
          exact ⟨_, by rw [HW.out]; rfl, (fun h => by rw [HW.out] at h; cases h), HB.out⟩
      · have h2n : ¬ (6 : Int) < (cs.length : Int) := by omega
        have hne : ((rnE ⟨x.1.nu, cs, 0, 1, 0, 0⟩ : Int) != 0) = true := by simpa using h3
        rw [h1] at hef
        have HT : Hid (trB x.1 cs = false) := Lib.hid (by unfold trB; rw [decide_eq_false h3]; simp)
        clear h1 h3
        generalize rnE ⟨x.1.nu, cs, 0, 1, 0, 0⟩ = m at *
        clear hv hi hcap
        have HEF := Lib.hid hef; clear hef
        have HRN := Lib.hid hrn; clear hrn
        go_enter Tryz.func54, Tryz.ntmps54
        go_wp2_with (first | (with_reducible refine ((HEF.out _ HV.out).mono ?_); rintro e w' ⟨rfl, hb⟩; replace HK := Lib.hid (HK.out.keep hb); clear k0 k1 k2 k3 k4 k5 kf0 kf1 kf2 kf3 kf4 kf5; replace HV := Lib.hid (PtsAt.below HV.out hb); replace HI := Lib.hid (IntsAt.below HI.out hb); replace HB := Lib.hid (bch' HB.out hb); clear hb; obtain ⟨k0, k1, k2, k3, k4, k5, kf0, kf1, kf2, kf3, kf4, kf5⟩ := HK.out.c6) | (with_reducible refine ((HRN.out _ HI.out).mono ?_); rintro e w' ⟨rfl, hb⟩; replace HK := Lib.hid (HK.out.keep hb); clear k0 k1 k2 k3 k4 k5 kf0 kf1 kf2 kf3 kf4 kf5; replace HV := Lib.hid (PtsAt.below HV.out hb); replace HI := Lib.hid (IntsAt.below HI.out hb); replace HB := Lib.hid (bch' HB.out hb); clear hb; obtain ⟨k0, k1, k2, k3, k4, k5, kf0, kf1, kf2, kf3, kf4, kf5⟩ := HK.out.c6))
        go_ret2
        exact ⟨_, by rw [HT.out]; rfl, (fun h => by rw [HT.out] at h; cases h), HB.out⟩
    · have h2n : (6 : Int) < (cs.length : Int) := by omega
      rw [h1] at hef
      have HT : Hid (trB x.1 cs = false) := Lib.hid (by unfold trB; rw [decide_eq_false h2]; simp)
      clear hv hi hcap
      have HEF := Lib.hid hef; clear hef
      have HRN := Lib.hid hrn; clear hrn
      go_enter Tryz.func54, Tryz.ntmps54
      go_wp2_with (first | (with_reducible refine ((HEF.out _ HV.out).mono ?_); rintro e w' ⟨rfl, hb⟩; replace HK := Lib.hid (HK.out.keep hb); clear k0 k1 k2 k3 k4 k5 kf0 kf1 kf2 kf3 kf4 kf5; replace HV := Lib.hid (PtsAt.below HV.out hb); replace HI := Lib.hid (IntsAt.below HI.out hb); replace HB := Lib.hid (bch' HB.out hb); clear hb; obtain ⟨k0, k1, k2, k3, k4, k5, kf0, kf1, kf2, kf3, kf4, kf5⟩ := HK.out.c6))
      go_ret2
      exact ⟨_, by rw [HT.out]; rfl, (fun h => by rw [HT.out] at h; cases h), HB.out⟩
  · have hne : ((efE x.1 : Int) != 0) = true := by simpa using h1
    have HT : Hid (trB x.1 cs = false) := Lib.hid (by unfold trB; rw [decide_eq_false h1]; simp)
    clear h1
    generalize efE x.1 = m at *
    clear hv hi hcap
    have HEF := Lib.hid hef; clear hef
    have HRN := Lib.hid hrn; clear hrn
    go_enter Tryz.func54, Tryz.ntmps54
    go_wp2_with (first | (with_reducible refine ((HEF.out _ HV.out).mono ?_); rintro e w' ⟨rfl, hb⟩; replace HK := Lib.hid (HK.out.keep hb); clear k0 k1 k2 k3 k4 k5 kf0 kf1 kf2 kf3 kf4 kf5; replace HV := Lib.hid (PtsAt.below HV.out hb); replace HI := Lib.hid (IntsAt.below HI.out hb); replace HB := Lib.hid (bch' HB.out hb); clear hb; obtain ⟨k0, k1, k2, k3, k4, k5, kf0, kf1, kf2, kf3, kf4, kf5⟩ := HK.out.c6))
    go_ret2
    exact ⟨_, by rw [HT.out]; rfl, (fun h => by rw [HT.out] at h; cases h), HB.out⟩

set_option maxRecDepth 100000 in
set_option maxHeartbeats 8000000 in
theorem top_tryEffects (w : World) (env : Env w) :
    Calls Tryz.prog 55 #[] w fun e w' => e = .returned (.bool true) ∧ Below w.heap.size w w' := by
  have ENV := Lib.hid env; clear env
  have hstE : stE [] 1 [4, 2] 0 = 0 := by decide +kernel
  have hsu4 : suE [exX] [newR 1 [4, 2] 0] 50 4 0 = ([56, 48], 0) := by decide +kernel
  have hsu2 : suE [exX] [newR 1 [4, 2] 0] 0 2 0 = ([56, 48], 0) := by decide +kernel
  have hb := ((Below.refl w.heap.size w).alloc (Nat.le_refl _) (.cells #[.int .i64 0, .int .i64 0, .int .i64 500, .int .i64 1000, .int .i64 1000, .int .i64 0] 33)).alloc (by simp) (.cells #[.int .i64 1, .int .i64 0, .slice (some ⟨w.heap.size, 0, none⟩) 3 3, .int .i64 100, .int .i64 1000, .int .i64 80] 36)
  have hw := (Blk.new w 33 #[.int .i64 0, .int .i64 0, .int .i64 500, .int .i64 1000, .int .i64 1000, .int .i64 0]).alloc (.cells #[.int .i64 1, .int .i64 0, .slice (some ⟨w.heap.size, 0, none⟩) 3 3, .int .i64 100, .int .i64 1000, .int .i64 80] 36)
  have hx := Blk.new (w.alloc (.cells #[.int .i64 0, .int .i64 0, .int .i64 500, .int .i64 1000, .int .i64 1000, .int .i64 0] 33)) 36 #[.int .i64 1, .int .i64 0, .slice (some ⟨w.heap.size, 0, none⟩) 3 3, .int .i64 100, .int .i64 1000, .int .i64 80]
  rw [World.size_alloc] at hx
  have hpt : PtsAt ((w.alloc (.cells #[.int .i64 0, .int .i64 0, .int .i64 500, .int .i64 1000, .int .i64 1000, .int .i64 0] 33)).alloc (.cells #[.int .i64 1, .int .i64 0, .slice (some ⟨w.heap.size, 0, none⟩) 3 3, .int .i64 100, .int .i64 1000, .int .i64 80] 36)) (.slice (some ⟨w.heap.size, 0, none⟩) 3 3) exX.wv := ⟨_, 3, rfl, fun _ => ⟨w.heap.size, 0, rfl, hw.lt, fun i hi => by
    have hi3 : i < 3 := hi
    match i, hi3 with
    | 0, _ => exact ⟨hw.cell 0, hw.cell 1⟩
    | 1, _ => exact ⟨hw.cell 2, hw.cell 3⟩
    | 2, _ => exact ⟨hw.cell 4, hw.cell 5⟩⟩⟩
  have HPT := Lib.hid hpt; have HB := Lib.hid hb; have HX := Lib.hid hx; clear hpt hb hw hx
  obtain ⟨x0, x1, x2, x3, x4, x5, xf0, xf1, xf2, xf3, xf4, xf5⟩ := HX.out.c6
  go_enter Tryz.func55, Tryz.ntmps55
  go_upto_region 2 with fail
  obtain ⟨W1, hW1⟩ : ∃ X, X = (w.alloc (.cells #[.int .i64 0, .int .i64 0, .int .i64 500, .int .i64 1000, .int .i64 1000, .int .i64 0] 33)).alloc (.cells #[.int .i64 1, .int .i64 0, .slice (some ⟨w.heap.size, 0, none⟩) 3 3, .int .i64 100, .int .i64 1000, .int .i64 80] 36) := ⟨_, rfl⟩
  rw [← hW1] at HPT HB HX x0 x1 x2 x3 x4 x5 xf0 xf1 xf2 xf3 xf4 xf5 ⊢
  clear hW1
  have hst := own_estart [] (.slice none 0 0) 1 0 [4, 2] (some ⟨W1.heap.size, 0, none⟩) 2 2 (W1.alloc (.cells #[.int .i64 4, .int .i64 2] 3)) (runsAt_nil _) ⟨_, 2, rfl, fun _ => ⟨W1.heap.size, 0, rfl, by simp, fun i hi => by
    have hw2 := Blk.new W1 3 #[.int .i64 4, .int .i64 2]
    have hi3 : i < 2 := hi
    match i, hi3 with
    | 0, _ => exact hw2.cell 0
    | 1, _ => exact hw2.cell 1⟩⟩ (by simp) (by simp)
  rw [hstE] at hst
  have HST := Lib.hid hst; clear hst hstE
  go_wp2_with fail
  refine (HST.out.mono ?_)
  rintro e w2 ⟨v, rfl, hv1, -, hb⟩
  have hb1 := (Below.refl W1.heap.size W1).alloc (Nat.le_refl _) (.cells #[.int .i64 4, .int .i64 2] 3)
  replace hb := bch' hb1 hb
  have HV1 := Lib.hid (hv1 rfl); clear hv1 HST hb1
  replace HX := Lib.hid (HX.out.keep hb); clear x0 x1 x2 x3 x4 x5 xf0 xf1 xf2 xf3 xf4 xf5; replace HPT := Lib.hid (PtsAt.below HPT.out hb); replace HB := Lib.hid (bch' HB.out hb); clear hb; obtain ⟨x0, x1, x2, x3, x4, x5, xf0, xf1, xf2, xf3, xf4, xf5⟩ := HX.out.c6
  rw [putL_nil] at HV1
  have hs4 := fun W (h : RunsAt W v [newR 1 [4, 2] 0]) (hp : PtsAt W (.slice (some ⟨w.heap.size, 0, none⟩) 3 3) exX.wv) (e : Env W) => (own_esum [exX] [newR 1 [4, 2] 0] (.slice (some ⟨W.heap.size, 0, none⟩) 1 1) v 50 4 0 (W.alloc (.cells #[.int .i64 1, .int .i64 0, .slice (some ⟨w.heap.size, 0, none⟩) 3 3, .int .i64 100, .int .i64 1000, .int .i64 80] 36)) (efsAt_one (x := (exX, (some ⟨w.heap.size, 0, none⟩, 3, 3))) (Blk.new W 36 _) (hp.below ((Below.refl _ _).alloc (Nat.le_refl _) _))) (h.kept ((Below.refl _ _).alloc (Nat.le_refl _) _)) (e.below ((Below.refl _ _).alloc (Nat.le_refl _) _))).mono (R' := fun e w' => e = .returned (.tuple #[.string ⟨#[56, 48]⟩, .int .i64 0]) ∧ Below W.heap.size W w') (fun e w' h => ⟨by rw [h.1, hsu4], bch' ((Below.refl _ _).alloc (Nat.le_refl _) _) h.2⟩)
  have hs2 := fun W (h : RunsAt W v [newR 1 [4, 2] 0]) (hp : PtsAt W (.slice (some ⟨w.heap.size, 0, none⟩) 3 3) exX.wv) (e : Env W) => (own_esum [exX] [newR 1 [4, 2] 0] (.slice (some ⟨W.heap.size, 0, none⟩) 1 1) v 0 2 0 (W.alloc (.cells #[.int .i64 1, .int .i64 0, .slice (some ⟨w.heap.size, 0, none⟩) 3 3, .int .i64 100, .int .i64 1000, .int .i64 80] 36)) (efsAt_one (x := (exX, (some ⟨w.heap.size, 0, none⟩, 3, 3))) (Blk.new W 36 _) (hp.below ((Below.refl _ _).alloc (Nat.le_refl _) _))) (h.kept ((Below.refl _ _).alloc (Nat.le_refl _) _)) (e.below ((Below.refl _ _).alloc (Nat.le_refl _) _))).mono (R' := fun e w' => e = .returned (.tuple #[.string ⟨#[56, 48]⟩, .int .i64 0]) ∧ Below W.heap.size W w') (fun e w' h => ⟨by rw [h.1, hsu2], bch' ((Below.refl _ _).alloc (Nat.le_refl _) _) h.2⟩)
  clear hsu4 hsu2
  have HS4 := Lib.hid hs4; clear hs4
  have HS2 := Lib.hid hs2; clear hs2
  go_wp2_with (first | (with_reducible refine ((HS4.out _ HV1.out HPT.out (ENV.out.below HB.out)).mono ?_); rintro e w' ⟨rfl, hb⟩; replace HX := Lib.hid (HX.out.keep hb); clear x0 x1 x2 x3 x4 x5 xf0 xf1 xf2 xf3 xf4 xf5; replace HPT := Lib.hid (PtsAt.below HPT.out hb); replace HV1 := Lib.hid (RunsAt.kept HV1.out hb); replace HB := Lib.hid (bch' HB.out hb); clear hb; obtain ⟨x0, x1, x2, x3, x4, x5, xf0, xf1, xf2, xf3, xf4, xf5⟩ := HX.out.c6) | (with_reducible refine ((HS2.out _ HV1.out HPT.out (ENV.out.below HB.out)).mono ?_); rintro e w' ⟨rfl, hb⟩; replace HX := Lib.hid (HX.out.keep hb); clear x0 x1 x2 x3 x4 x5 xf0 xf1 xf2 xf3 xf4 xf5; replace HPT := Lib.hid (PtsAt.below HPT.out hb); replace HV1 := Lib.hid (RunsAt.kept HV1.out hb); replace HB := Lib.hid (bch' HB.out hb); clear hb; obtain ⟨x0, x1, x2, x3, x4, x5, xf0, xf1, xf2, xf3, xf4, xf5⟩ := HX.out.c6))
  go_ret
  exact ⟨rfl, HB.out⟩
end Go.Proofs.YtbamcfhmkohbmaaGreatDoor
namespace Lum
open Go Go.RowKit Go.Shelf
open Go.Lib (decDigits itoa)
/-- An offset of one effect that runs alone. -/
theorem suE_alone {x : Efx} {cs : List Int} {t0 t : Int} {i : Nat} (h : trB x cs = true) (hi : i < cs.length) (h0 : 0 ≤ t0) (h1 : t0 ≤ t) (h2 : t ≤ 10000000) : suE [x] [newR x.nu cs t0] t (inI cs i) x.at_ = (showR (offQ x i cs.length (100 * (t - t0))), 0) := by
  obtain ⟨e1, e2, e3, e4⟩ := trB_on h
  have ho := efOk e1
  have hr := (chOk e3).rng i hi
  rw [suE_one e1 (rnE_newR e3 e4 (by omega)) (paE_in (by have := ho.at_; omega)) (mo_new h0 h1 h2), toldQ_one (r := newR x.nu cs t0) rfl rfl (mem_at e3 hi)]
  dsimp only [newR]
  rw [sh_new h1]
end Lum
namespace Go.Proofs.YtbamcfhmkohbmaaGreatDoor
open Go.RowKit Go.Shelf Lum
open Go.Lib (decDigits itoa)
attribute [local go_sem] bs_get bs_extract_end bs_extract_from bs_extract bs_append

end Go.Proofs.YtbamcfhmkohbmaaGreatDoor
namespace Lum
open Go Go.RowKit Go.Shelf
open Go.Lib (decDigits itoa)
theorem scanW_of_wv14 {l : List (Int × Int)} (w : Wv l) : ∀ n i, i + n ≤ l.length → scanW l n i = 0
  | 0, _, _ => rfl
  | n + 1, i, h => by
    have hy := w.h i (by omega)
    rw [scanW, if_neg (by omega), if_neg]
    · exact scanW_of_wv14 w n (i + 1) (by omega)
    · intro ⟨h0, h1⟩
      have := w.s (i - 1) (by omega)
      rw [show i - 1 + 1 = i by omega] at this
      omega
theorem wvE_of_wv14 {l : List (Int × Int)} (w : Wv l) : wvE l = 0 := by
  have h0 := w.lo; have h1 := w.hi; have hx := w.x0; have hx1 := w.x1; have hy := w.y
  unfold wvE
  rw [if_neg (by omega), if_neg (by omega), scanW_of_wv14 w l.length 0 (by omega), if_neg (by simp), if_neg (by simpa using hy)]
/-- The effect against: the next number, the wave upside down. -/
def flX (x : Efx) : Efx := ⟨x.nu + 1, x.at_, flipL x.wv, x.pe, x.sp, x.sz⟩
/-- The effect whose wave is tidy. -/
def tdX (x : Efx) : Efx := ⟨x.nu, x.at_, tidF x.wv.length 1 x.wv, x.pe, x.sp, x.sz⟩
theorem efE_flX {x : Efx} (h : efE x = 0) (hn : x.nu < 1048576) : efE (flX x) = 0 := by
  have o := efOk h
  have o1 := o.nu; have o2 := o.at_; have o3 := o.pe; have o4 := o.sp; have o5 := o.sz
  exact efE_ok (x := flX x) (by dsimp only [flX]; omega) (wvE_of_wv14 (wvE_zero o.wv).flip) (by dsimp only [flX]; omega)
theorem efE_tdX {x : Efx} (h : efE x = 0) : efE (tdX x) = 0 := by
  have o := efOk h
  have o1 := o.nu; have o2 := o.at_; have o3 := o.pe; have o4 := o.sp; have o5 := o.sz
  exact efE_ok (x := tdX x) (by dsimp only [tdX]; omega) (wvE_of_wv14 (tidF_wv _ 1 (wvE_zero o.wv) (by omega)).1) (by dsimp only [tdX]; omega)
theorem offQ_flX {x : Efx} (h : efE x = 0) (i k el : Int) : offQ (flX x) i k el = -offQ x i k el := by
  have e : atQ (flX x) i k el = atQ x i k el := rfl
  unfold offQ
  rw [e]
  show hgtW (flipL x.wv) (atQ x i k el) * Rat.divInt x.sz 1000 = _
  rw [hgt_flip (wvE_zero (efOk h).wv), Rat.neg_mul]
theorem offQ_tdX {x : Efx} (h : efE x = 0) (i k el : Int) : offQ (tdX x) i k el = offQ x i k el := by
  have e : atQ (tdX x) i k el = atQ x i k el := rfl
  unfold offQ
  rw [e]
  show hgtW (tidF x.wv.length 1 x.wv) (atQ x i k el) * Rat.divInt x.sz 1000 = _
  rw [(tidF_wv _ 1 (wvE_zero (efOk h).wv) (by omega)).2.1]
theorem efs_two {x : Efx} (h : efE x = 0) (hn : x.nu < 1048576) : OrdOk efE (·.nu) [x, flX x] :=
  ⟨by simp, fun j hj => by
    match j, hj with
    | 0, _ => exact h
    | 1, _ => exact efE_flX h hn, by simp [flX]; omega⟩
theorem rns_two {n t : Int} {cs : List Int} (h : chE cs = 0) (hn : 1 ≤ n ∧ n < 1048576) (ht : 0 ≤ t ∧ t ≤ 10000000) : OrdOk rnE (·.ef) [newR n cs t, newR (n + 1) cs t] :=
  ⟨by simp, fun j hj => by
    match j, hj with
    | 0, _ => exact rnE_newR h (by omega) ht
    | 1, _ => exact rnE_newR h (by omega) ht, by simp [newR]; omega⟩
theorem putL_two {n t : Int} {cs : List Int} : putL [newR n cs t] (newR (n + 1) cs t) = [newR n cs t, newR (n + 1) cs t] := by
  unfold putL
  have h1 : n < n + 1 := by omega
  have h2 : ¬ n + 1 < n := by omega
  simp [newR, h1, h2]
theorem stE_two {n t : Int} {cs : List Int} (h : chE cs = 0) (hn : 1 ≤ n ∧ n < 1048576) (ht : 0 ≤ t ∧ t ≤ 10000000) : stE [newR n cs t] (n + 1) cs t = 0 :=
  stE_ok (ordE_of (rns_one (rnE_newR h (by omega) ht))) ((wiB_iff _ _ _).2 ht) (rnE_newR h (by omega) ht) (by rw [putL_two]; simp)
theorem pbE_two {x : Efx} {cs : List Int} {t0 ch a : Int} (hx : efE x = 0) (hn : x.nu < 1048576) (h : chE cs = 0) (h0 : 0 ≤ t0 ∧ t0 ≤ 10000000) (hp : paE ch a = 0) : pbE [x, flX x] [newR x.nu cs t0, newR (x.nu + 1) cs t0] ch a = 0 := by
  have h1 : efsE [x, flX x] = 0 := ordE_of (efs_two hx hn)
  have h2 : rnsE [newR x.nu cs t0, newR (x.nu + 1) cs t0] = 0 := ordE_of (rns_two h ⟨(efOk hx).nu.1, hn⟩ h0)
  rw [pbE_pa (by rw [boE_rn h1]; exact h2)]; exact hp
theorem told_a {x : Efx} {cs : List Int} {t0 t : Int} {i : Nat} (h : chE cs = 0) (hi : i < cs.length) (h1 : t0 ≤ t) : toldQ [x, flX x] (newR x.nu cs t0) t (inI cs i) x.at_ = offQ x i cs.length (100 * (t - t0)) := by
  have hf : [x, flX x].find? (fun y => y.nu == (newR x.nu cs t0).ef) = some x := by simp [newR]
  have hm : memI (newR x.nu cs t0).cs (inI cs i) = (i : Int) := mem_at h hi
  rw [toldQ_some hf, if_neg (by rw [hm]; intro e; rcases e with e | e; omega; exact e rfl), hm]
  dsimp only [newR]
  rw [sh_new h1]
theorem told_b {x : Efx} {cs : List Int} {t0 t : Int} {i : Nat} (hx : efE x = 0) (h : chE cs = 0) (hi : i < cs.length) (h1 : t0 ≤ t) : toldQ [x, flX x] (newR (x.nu + 1) cs t0) t (inI cs i) x.at_ = -offQ x i cs.length (100 * (t - t0)) := by
  have hne : (x.nu == x.nu + 1) = false := by rw [beq_eq_false_iff_ne]; omega
  have hf : [x, flX x].find? (fun y => y.nu == (newR (x.nu + 1) cs t0).ef) = some (flX x) := by simp [newR, flX, hne]
  have hm : memI (newR (x.nu + 1) cs t0).cs (inI cs i) = (i : Int) := mem_at h hi
  rw [toldQ_some hf, if_neg (by rw [hm]; intro e; rcases e with e | e; omega; exact e rfl), hm, offQ_flX hx]
  dsimp only [newR]
  rw [sh_new h1]
theorem suE_two {x : Efx} {cs : List Int} {t0 t : Int} {i : Nat} (hx : efE x = 0) (hn : x.nu < 1048576) (h : chE cs = 0) (hi : i < cs.length) (h0 : 0 ≤ t0) (h1 : t0 ≤ t) (h2 : t ≤ 10000000) : suE [x, flX x] [newR x.nu cs t0, newR (x.nu + 1) cs t0] t (inI cs i) x.at_ = ([48], 0) := by
  have hr := (chOk h).rng i hi
  have ha := (efOk hx).at_
  rw [suE_ok (pbE_two hx hn h (by omega) (paE_in (by omega))) (atF_zero fun y hy => by
    rcases List.mem_cons.1 hy with rfl | hy
    · exact mo_new h0 h1 h2
    · obtain rfl := List.mem_singleton.1 hy; exact mo_new h0 h1 h2)]
  have hs : sumQ [x, flX x] [newR x.nu cs t0, newR (x.nu + 1) cs t0] t (inI cs i) x.at_ = 0 := by
    unfold sumQ
    simp only [List.foldl_cons, List.foldl_nil]
    rw [told_a h hi h1, told_b hx h hi h1, Rat.zero_add]
    grind
  rw [hs, (showR_eq_zero 0).2 rfl]
theorem ofE_two {x : Efx} {cs : List Int} {t0 t : Int} {i : Nat} (hx : efE x = 0) (hn : x.nu < 1048576) (h : chE cs = 0) (hi : i < cs.length) (h0 : 0 ≤ t0) (h1 : t0 ≤ t) (h2 : t ≤ 10000000) : ofE [x, flX x] [newR x.nu cs t0, newR (x.nu + 1) cs t0] (x.nu + 1) t (inI cs i) x.at_ = (showR (-offQ x i cs.length (100 * (t - t0))), 0) := by
  have hr := (chOk h).rng i hi
  have ha := (efOk hx).at_
  have hne : (x.nu == x.nu + 1) = false := by rw [beq_eq_false_iff_ne]; omega
  rw [ofE_at (pbE_two hx hn h (by omega) (paE_in (by omega))) (x := newR (x.nu + 1) cs t0) (by simp [newR, hne]), tolT_ok (mo_new h0 h1 h2), told_b hx h hi h1]
theorem suE_tidy {x : Efx} {cs : List Int} {t0 t : Int} {i : Nat} (hx : efE x = 0) (h : chE cs = 0) (hi : i < cs.length) (h0 : 0 ≤ t0) (h1 : t0 ≤ t) (h2 : t ≤ 10000000) : suE [tdX x] [newR x.nu cs t0] t (inI cs i) x.at_ = (showR (offQ x i cs.length (100 * (t - t0))), 0) := by
  have ho := efOk hx
  have hr := (chOk h).rng i hi
  have hy := efE_tdX hx
  rw [suE_one hy (rnE_newR h ho.nu (by omega)) (paE_in (by have := ho.at_; omega)) (mo_new h0 h1 h2), toldQ_one (x := tdX x) (r := newR x.nu cs t0) (a := x.at_) rfl rfl (mem_at h hi), offQ_tdX hx]
  dsimp only [newR]
  rw [sh_new h1]
theorem efsAt_two {w : World} {g : Nat} {t : TypeId} {x y : Efx × Sl3} {c : Nat} (h : Blk w g t (encE x ++ encE y).toArray) (hx : PtsAt w (.slice x.2.1 x.2.2.1 x.2.2.2) x.1.wv) (hy : PtsAt w (.slice y.2.1 y.2.2.1 y.2.2.2) y.1.wv) : EfsAt w (.slice (some ⟨g, 0, none⟩) 2 c) [x.1, y.1] := by
  refine ⟨[x, y], some ⟨g, 0, none⟩, c, rfl, rfl, fun _ => ⟨g, 0, rfl, h.lt, fun i hi j u hu => ?_⟩, fun z hz => ?_⟩
  · have hc := h.cell (i * 6 + j)
    rw [Nat.zero_add, hc]
    have hj : j < 6 := by
      have := (List.getElem?_eq_some_iff.1 hu).1
      simpa [encE_len] using this
    match i, hi with
    | 0, _ =>
      have hu' : (encE x)[j]? = some u := hu
      rw [List.getElem?_toArray, List.getElem?_append_left (by rw [encE_len]; omega)]
      simpa using hu'
    | 1, _ =>
      have hu' : (encE y)[j]? = some u := hu
      rw [List.getElem?_toArray, List.getElem?_append_right (by rw [encE_len]; omega), encE_len, show 1 * 6 + j - 6 = j by omega]
      exact hu'
  · rcases List.mem_cons.1 hz with rfl | hz
    · exact hx
    · obtain rfl := List.mem_singleton.1 hz; exact hy
theorem pts_not {W : World} {p : Option Addr} {n c : Nat} {l : List (Int × Int)} {g : Nat} {t : TypeId} {a0 a1 a3 a4 a5 : Int} {s0 : Option Addr} {s1 s2 : Nat} (h : PtsAt W (.slice p n c) l) (h2 : 2 ≤ l.length) (hk : Blk W g t #[.int .i64 a0, .int .i64 a1, .slice s0 s1 s2, .int .i64 a3, .int .i64 a4, .int .i64 a5]) : ∀ a, p = some a → a.block ≠ g := by
  intro a ha e
  obtain ⟨hn, hop⟩ := PtsAt.opn h
  obtain ⟨b, o, hp, hb, hC⟩ := hop (fun h0 => by rw [h0] at h2; simp at h2)
  rw [hp] at ha
  injection ha with ha
  subst ha
  obtain rfl : b = g := e
  have x0 := (hC 0 (by omega)).1
  have x1 := (hC 0 (by omega)).2
  have x2 := (hC 1 (by omega)).1
  have x3 := (hC 1 (by omega)).2
  rw [hk.cell] at x0 x1 x2 x3
  have ho : o + 1 * 2 + 1 < 6 := (Array.getElem?_eq_some_iff.1 x3).1
  rcases (show o = 0 ∨ o = 1 ∨ o = 2 by omega) with rfl | rfl | rfl
  · simp at x2
  · simp at x1
  · simp at x0
theorem PtsAt.far {W : World} {p : Option Addr} {n c : Nat} {l : List (Int × Int)} (h : PtsAt W (.slice p n c) l) {g : Nat} (hg : ∀ a, p = some a → a.block ≠ g) (i : Nat) (u : Value) : PtsAt (W.setCell ⟨g, i, none⟩ u) (.slice p n c) l := by
  obtain ⟨p', c', e, h2⟩ := h
  refine ⟨p', c', e, fun hn => ?_⟩
  obtain ⟨b, o, hp, hb, hc⟩ := h2 hn
  injection e with e1
  have hbg : b ≠ g := hg _ (e1.trans hp)
  exact ⟨b, o, hp, by simpa using hb, fun j hj => ⟨(cell_blk (Below.heap_setCell W ⟨g, i, none⟩ u b hbg)).trans (hc j hj).1, (cell_blk (Below.heap_setCell W ⟨g, i, none⟩ u b hbg)).trans (hc j hj).2⟩⟩
theorem RowX.far {β : Type} {enc : β → List Value} {k : Nat} {W : World} {p : Option Addr} {l : List β} (h : RowX enc k W p l) {g : Nat} (hg : ∀ a, p = some a → a.block ≠ g) (i : Nat) (u : Value) : RowX enc k (W.setCell ⟨g, i, none⟩ u) p l := fun hn => by
  obtain ⟨b, o, hp, hb, hc⟩ := h hn
  exact ⟨b, o, hp, by simpa using hb, fun j hj m v hv => (cell_blk (Below.heap_setCell W ⟨g, i, none⟩ u b (hg _ hp))).trans (hc j hj m v hv)⟩
theorem one_of {L : List (Rnx × Sl3)} {r : Rnx} (h : L.map (·.1) = [r]) : ∃ q, L = [(r, q)] := by
  match L, h with
  | [(a, q)], h => exact ⟨q, by simpa using h⟩
theorem belongs_two {n t : Int} {cs : List Int} : Belongs (keyAt (·.ef) [newR n cs t]) [newR n cs t].length (n + 1) 1 false := by
  have e : keyAt (·.ef) [newR n cs t] 0 = n := rfl
  refine ⟨by simp, ?_, ?_, ?_, ?_⟩
  · intro j hj
    obtain rfl : j = 0 := by omega
    rw [e]; omega
  · intro h; cases h
  · intro _ j h1 h2
    have h3 : j < 1 := h2
    omega
  · intro j h1 h2
    have h3 : j < 1 := h2
    omega
end Lum
namespace Go.Proofs.YtbamcfhmkohbmaaGreatDoor
open Go.RowKit Go.Shelf Lum
open Go.Lib (decDigits itoa)
attribute [local go_sem] bs_get bs_extract_end bs_extract_from bs_extract bs_append

set_option maxRecDepth 100000 in
set_option maxHeartbeats 8000000 in
theorem own_estart_at (R : List Rnx) (M : List (Rnx × Sl3)) (pm : Option Addr) (cm : Nat) (n t : Int) (cs : List Int) (p : Option Addr) (c : Nat) (w : World) (hM : M.map (·.1) = R) (hMR : RowX encN 6 w pm M) (hMC : HasC w M) (hz : rnsE R = 0) (ht : wiB t 0 10000000 = true) (hx : rnE (newR n cs t) = 0) (hl : ¬ 16 < (putL R (newR n cs t)).length) (i : Nat) (hit : Bool) (hok : OrdOk rnE (·.ef) R) (hb9 : Belongs (keyAt (·.ef) R) R.length n i hit) (hi : IntsAt w (.slice p cs.length c) cs) (hcap : cs.length ≤ c) (hlen : cs.length ≤ 1000000) :
    Calls Tryz.prog 27 #[.slice pm M.length cm, .int .i64 n, .slice p cs.length c, .int .i64 t] w fun e w' => ∃ p7 c7 pc cc, e = .returned (.tuple #[.slice p7 (insL M i hit (newR n cs t, (pc, cs.length, cc))).length c7, .int .i64 0]) ∧ RowX encN 6 w' p7 (insL M i hit (newR n cs t, (pc, cs.length, cc))) ∧ (∀ a, p7 = some a → w.heap.size ≤ a.block) ∧ IntsAt w' (.slice pc cs.length cc) cs ∧ cs.length ≤ cc ∧ (∀ a, pc = some a → w.heap.size ≤ a.block) ∧ Below w.heap.size w w' := by
  have hr : RunsAt w (.slice pm M.length cm) R := ⟨M, pm, cm, rfl, hM, hMR, hMC⟩
  have hru := fun W (h : RunsAt W (.slice pm M.length cm) R) => own_eruns R (.slice pm M.length cm) W h
  change ∀ W, RunsAt W (.slice pm M.length cm) R → Calls _ _ _ _ (fun e w' => e = .returned (.int .i64 (rnsE R)) ∧ _) at hru
  have hnw := fun W => own_clk_new t W
  have HN := Lib.hid hr; have HI := Lib.hid hi
  have HB := Lib.hid (Below.refl w.heap.size w)
  clear hr
  rw [hz] at hru
  rw [if_pos ht, if_pos ht] at hnw
  dsimp only [clkV] at hnw
  have hcl := fun W (h : RowX encI 1 W p cs) => own_iclone W cs p c h (by omega)
  have hrn := fun W (pc : Option Addr) (cc : Nat) (h : IntsAt W (.slice pc cs.length cc) cs) (h2 : cs.length ≤ cc) => own_erun n 0 100 1 t cs pc cs.length cc W h h2
  change ∀ W (pc : Option Addr) (cc : Nat) (h : IntsAt W (.slice pc cs.length cc) cs) (h2 : cs.length ≤ cc), Calls _ _ _ _ (fun e w' => e = .returned (.int .i64 (rnE (newR n cs t))) ∧ _) at hrn
  rw [hx] at hrn
  have HRU := Lib.hid hru; clear hru
  have HNW := Lib.hid hnw; clear hnw
  have HCL := Lib.hid hcl; clear hcl
  have HRN := Lib.hid hrn; clear hrn
  have hxe := (rnOk hx).ef
  have hpu := fun W (h : RowX encN 6 W pm M) (pc : Option Addr) (cc : Nat) => own_eput W M (newR n cs t, (pc, cs.length, cc)) pm cm i hit h (by rw [hM]; exact hok) hxe (by rw [hM]; show Belongs _ M.length n i hit; rw [← List.length_map (f := fun x : Rnx × Sl3 => x.1), hM]; exact hb9)
  have HRX : Hid (∀ W, Below w.heap.size w W → RowX encN 6 W pm M) := Lib.hid fun W h => hMR.kept h
  have HMC : Hid (∀ W, Below w.heap.size w W → HasC W M) := Lib.hid fun W h => hMC.kept h
  have hpl : ∀ pc cc, (insL M i hit (newR n cs t, ((pc : Option Addr), cs.length, (cc : Nat)))).map (·.1) = putL R (newR n cs t) := fun pc cc => by rw [insL_map, hM]; exact insL_putL (x := newR n cs t) hb9
  have HPL := Lib.hid hpl; clear hpl
  have HLN : Hid (∀ pc cc, (insL M i hit (newR n cs t, ((pc : Option Addr), cs.length, (cc : Nat)))).length = (putL R (newR n cs t)).length) := Lib.hid fun pc cc => by rw [← HPL.out pc cc, List.length_map]
  have hlq : ¬ (16 : Int) < ((putL R (newR n cs t)).length : Int) := by omega
  clear hz ht hx hok hb9 hxe hMR hMC hM hl
  have HPU := Lib.hid hpu; clear hpu
  go_enter Tryz.func27, Tryz.ntmps27
  go_upto_region 5 with (first | (with_reducible refine ((HRU.out _ HN.out).mono ?_); rintro e w' ⟨rfl, hb⟩; replace HN := Lib.hid (RunsAt.kept HN.out hb); replace HI := Lib.hid (IntsAt.below HI.out hb); replace HB := Lib.hid (bch' HB.out hb); clear hb) | (with_reducible refine ((HNW.out _).mono ?_); rintro e w2 ⟨rfl, hb⟩; replace HN := Lib.hid (RunsAt.kept HN.out hb); replace HI := Lib.hid (IntsAt.below HI.out hb); replace HB := Lib.hid (bch' HB.out hb); clear hb))
  have hb := (Below.refl w2.heap.size w2).alloc (Nat.le_refl _) (.cells #[.int .i64 0, .int .i64 100, .int .i64 1, .int .i64 t] 55)
  have HC := Lib.hid (Blk.new w2 55 #[.int .i64 0, .int .i64 100, .int .i64 1, .int .i64 t])
  replace HN := Lib.hid (RunsAt.kept HN.out hb); replace HI := Lib.hid (IntsAt.below HI.out hb); replace HB := Lib.hid (bch' HB.out hb); clear hb
  obtain ⟨g, hg⟩ : ∃ g, g = w2.heap.size := ⟨_, rfl⟩
  obtain ⟨W1, hW1⟩ : ∃ X, X = w2.alloc (.cells #[.int .i64 0, .int .i64 100, .int .i64 1, .int .i64 t] 55) := ⟨_, rfl⟩
  rw [← hg] at HC ⊢
  rw [← hW1] at HB HN HI HC ⊢
  clear hg hW1
  clear HI HN
  go_upto_region 7 with fail
  obtain ⟨SS, hSS⟩ : ∃ SS : World → Prop, ∀ W', SS W' ↔ (Below w.heap.size w W' ∧ Blk W' g 55 #[.int .i64 0, .int .i64 100, .int .i64 1, .int .i64 t]) := ⟨fun W' => Below w.heap.size w W' ∧ Blk W' g 55 #[.int .i64 0, .int .i64 100, .int .i64 1, .int .i64 t], fun _ => Iff.rfl⟩
  have HBO : Hid (∀ W', SS W' → (W'.cell? ⟨g, 0, none⟩ = some (.int .i64 0) ∧ W'.cell? ⟨g, 1, none⟩ = some (.int .i64 100) ∧ W'.cell? ⟨g, 2, none⟩ = some (.int .i64 1) ∧ W'.cell? ⟨g, 3, none⟩ = some (.int .i64 t) ∧ SS W')) := Lib.hid fun W' hs => by obtain ⟨h1, h2⟩ := (hSS W').1 hs; exact ⟨h2.c4.1, h2.c4.2.1, h2.c4.2.2.1, h2.c4.2.2.2.1, hs⟩
  have HS1 : Hid (SS W1) := Lib.hid ((hSS _).2 ⟨HB.out, HC.out⟩)
  have HKE : Hid (∀ A B, SS A → Below A.heap.size A B → SS B) := Lib.hid fun A B hs hb => by obtain ⟨h1, h2⟩ := (hSS A).1 hs; exact (hSS B).2 ⟨bch' h1 hb, h2.keep hb⟩
  have HKD : Hid (∀ A, SS A → SS A.drew) := Lib.hid fun A h => HKE.out _ _ h ((Below.refl _ _).drew)
  have HKA : Hid (∀ A c, SS A → SS (A.alloc c)) := Lib.hid fun A c h => HKE.out _ _ h ((Below.refl _ _).alloc (Nat.le_refl _) _)
  have HSZ : Hid (∀ W, SS W → w.heap.size ≤ W.heap.size) := Lib.hid fun W hs => ((hSS W).1 hs).1.size
  have HII : Hid (∀ W, SS W → RowX encI 1 W p cs) := Lib.hid fun W hs => ints_row (IntsAt.below hi ((hSS W).1 hs).1)
  have HSE : Hid (∀ (A : World) (n : Nat) (c : Array Value) (v0 v1 v2 v3 v4 v5 : Value), SS A → w.heap.size ≤ n → Blk A n 58 c → SS ((((((A.setCell ⟨n, 0, none⟩ v0).setCell ⟨n, 1, none⟩ v1).setCell ⟨n, 2, none⟩ v2).setCell ⟨n, 3, none⟩ v3).setCell ⟨n, 4, none⟩ v4).setCell ⟨n, 5, none⟩ v5)) := Lib.hid fun A n c v0 v1 v2 v3 v4 v5 hs hn hb => by obtain ⟨h1, h2⟩ := (hSS A).1 hs; have hne := blk_ne h2 hb (by decide); exact (hSS _).2 ⟨(((((h1.setCell hn _).setCell hn _).setCell hn _).setCell hn _).setCell hn _).setCell hn _, (((((h2.far hne _).far hne _).far hne _).far hne _).far hne _).far hne _⟩
  have HFI : Hid (∀ A, SS A → Below w.heap.size w A) := Lib.hid fun A hs => ((hSS A).1 hs).1
  clear hSS HC HB
  go_cut [13] (fun s13 wx => ∃ (n7 : Nat) (pc : Option Addr) (cc : Nat), s13 = .pointer (some ⟨n7, 0, none⟩) ∧ Hid (SS wx) ∧ Hid (Blk wx n7 58 #[.int .i64 n, .slice pc cs.length cc, .int .i64 0, .int .i64 100, .int .i64 1, .int .i64 t]) ∧ Hid (IntsAt wx (.slice pc cs.length cc) cs) ∧ Hid (cs.length ≤ cc) ∧ Hid (∀ a, pc = some a → w.heap.size ≤ a.block))
  case first =>
    go_region_held3 (fun W' => W'.cell? ⟨g, 0, none⟩ = some (.int .i64 0) ∧ W'.cell? ⟨g, 1, none⟩ = some (.int .i64 100) ∧ W'.cell? ⟨g, 2, none⟩ = some (.int .i64 1) ∧ W'.cell? ⟨g, 3, none⟩ = some (.int .i64 t) ∧ SS W') (with_reducible refine HBO.out _ ?_; ((repeat (first | with_reducible refine HSE.out _ _ _ _ _ _ _ _ _ ?_ HZ.1 HZ.2 | with_reducible refine HKE.out _ _ ?_ hb9 | with_reducible refine HKA.out _ _ ?_ | with_reducible refine HKD.out _ ?_)); with_reducible exact HS1.out)) (first | (go_at_call 91; with_reducible refine (HCL.out _ (HII.out _ (by ((repeat (first | with_reducible refine HSE.out _ _ _ _ _ _ _ _ _ ?_ HZ.1 HZ.2 | with_reducible refine HKE.out _ _ ?_ hb9 | with_reducible refine HKA.out _ _ ?_ | with_reducible refine HKD.out _ ?_)); with_reducible exact HS1.out)))).mono ?_; rintro e w9 ⟨p9, c9, rfl, ho9, hb9⟩; first | (with_reducible refine use2 (And.intro (HSZ.out _ HS1.out) (Blk.keep (Blk.drew (blk_newE rfl)) hb9) : w.heap.size ≤ W1.heap.size ∧ Blk w9 W1.heap.size 58 #[.int .i64 0, .slice none 0 0, .int .i64 0, .int .i64 0, .int .i64 0, .int .i64 0]) (fun HZ => ?_); obtain ⟨y0, y1, y2, y3, y4, y5, yf0, yf1, yf2, yf3, yf4, yf5⟩ := HZ.2.c6) | skip))
    all_goals (go_wp2_with fail; go_meet; have hi9 := OwnR.ints ho9; have ha9 : ∀ o, IntsAt (w9.alloc o) (.slice p9 cs.length c9) cs := fun o => hi9.below ((Below.refl w9.heap.size w9).alloc (Nat.le_refl _) o); have hge9 : ∀ a, p9 = some a → w.heap.size ≤ a.block := fun a ha => Nat.le_trans (HSZ.out _ (by ((repeat (first | with_reducible refine HSE.out _ _ _ _ _ _ _ _ _ ?_ HZ.1 HZ.2 | with_reducible refine HKE.out _ _ ?_ hb9 | with_reducible refine HKA.out _ _ ?_ | with_reducible refine HKD.out _ ?_)); with_reducible exact HS1.out))) (ho9.lt a ha).1; refine ⟨_, p9, c9, rfl, Lib.hid ?_, Lib.hid ?_, Lib.hid ?_, Lib.hid ho9.cap, Lib.hid hge9⟩)
    all_goals first | ((repeat (first | with_reducible refine HSE.out _ _ _ _ _ _ _ _ _ ?_ HZ.1 HZ.2 | with_reducible refine HKE.out _ _ ?_ hb9 | with_reducible refine HKA.out _ _ ?_ | with_reducible refine HKD.out _ ?_)); with_reducible exact HS1.out) | with_reducible exact blk_newE rfl | with_reducible exact Blk.all6 HZ.2 _ _ _ _ _ _ | with_reducible exact ha9 _ | (have hne : ∀ a, p9 = some a → a.block ≠ W1.heap.size := fun a ha => (by have h := (ho9.lt a ha).1; simp [World.drew] at h; omega); (repeat with_reducible refine IntsAt.far ?_ hne _ _); with_reducible exact hi9)
  case rest =>
    obtain ⟨n7, pc, cc, rfl, HSS, HX, HI, HCC, HGE⟩ := hcut
    have hB := HFI.out _ HSS.out
    have HB := Lib.hid hB; clear hB
    clear HSS HFI HSE HSZ HKA HKD HKE HS1 HBO HII
    obtain ⟨x0, x1, x2, x3, x4, x5, xf0, xf1, xf2, xf3, xf4, xf5⟩ := HX.out.c6
    go_upto_region 11 with (first | (with_reducible refine ((HRN.out _ _ _ HI.out HCC.out).mono ?_); rintro e w8 ⟨rfl, hb⟩; replace HX := Lib.hid (HX.out.keep hb); clear x0 x1 x2 x3 x4 x5 xf0 xf1 xf2 xf3 xf4 xf5; replace HI := Lib.hid (IntsAt.below HI.out hb); replace HB := Lib.hid (bch' HB.out hb); clear hb; obtain ⟨x0, x1, x2, x3, x4, x5, xf0, xf1, xf2, xf3, xf4, xf5⟩ := HX.out.c6))
    have hlen := HLN.out pc cc
    go_upto_region 12 with (first | (with_reducible refine ((HPU.out _ (HRX.out _ HB.out) _ _).mono ?_); rintro e w7 ⟨p7, c7, rfl, ho, hb⟩; have HO := Lib.hid ho; clear ho; have HW8 := HB; replace HX := Lib.hid (HX.out.keep hb); clear x0 x1 x2 x3 x4 x5 xf0 xf1 xf2 xf3 xf4 xf5; replace HI := Lib.hid (IntsAt.below HI.out hb); replace HB := Lib.hid (bch' HB.out hb); clear hb; obtain ⟨x0, x1, x2, x3, x4, x5, xf0, xf1, xf2, xf3, xf4, xf5⟩ := HX.out.c6))
    go_wp2_with fail
    go_ret2
    rw [← hlen]
    exact ⟨p7, c7, pc, cc, rfl, HO.out.row encN_len, fun a ha => Nat.le_trans HW8.out.size (HO.out.lt a ha).1, HI.out, HCC.out, HGE.out, HB.out⟩

set_option maxRecDepth 100000 in
set_option maxHeartbeats 8000000 in
theorem law_cancel (x : Efx × Sl3) (u0 u1 : Int) (cs : List Int) (p : Option Addr) (c : Nat) (w : World) (hv : PtsAt w (.slice x.2.1 x.2.2.1 x.2.2.2) x.1.wv) (hi : IntsAt w (.slice p cs.length c) cs) (hcap : cs.length ≤ c) (hu0 : 0 ≤ u0 ∧ u0 ≤ 65535) (hu1 : 0 ≤ u1 ∧ u1 ≤ 65535) (env : Env w) :
    Calls Tryz.prog 13 #[.agg #[.int .i64 (x.1.nu), .int .i64 (x.1.at_), .slice x.2.1 x.2.2.1 x.2.2.2, .int .i64 (x.1.pe), .int .i64 (x.1.sp), .int .i64 (x.1.sz)], .slice p cs.length c, .agg #[.int .u16 u0, .int .u16 u1]] w fun e w' => e = .returned (.bool (true)) ∧ Below w.heap.size w w' := by
  have ENV := Lib.hid env; clear env
  have hal := ((Below.refl w.heap.size w).alloc (Nat.le_refl _) (.cells #[.int .i64 (x.1.nu), .int .i64 (x.1.at_), .slice x.2.1 x.2.2.1 x.2.2.2, .int .i64 (x.1.pe), .int .i64 (x.1.sp), .int .i64 (x.1.sz)] 36)).alloc (by simp) (.cells #[.int .u16 u0, .int .u16 u1] 49)
  have HV := Lib.hid (PtsAt.below hv hal); have HI := Lib.hid (IntsAt.below hi hal); have HB := Lib.hid hal; clear hal
  have HK := Lib.hid ((Blk.new w 36 #[.int .i64 (x.1.nu), .int .i64 (x.1.at_), .slice x.2.1 x.2.2.1 x.2.2.2, .int .i64 (x.1.pe), .int .i64 (x.1.sp), .int .i64 (x.1.sz)]).alloc (.cells #[.int .u16 u0, .int .u16 u1] 49))
  have hA := Blk.new (w.alloc (.cells #[.int .i64 (x.1.nu), .int .i64 (x.1.at_), .slice x.2.1 x.2.2.1 x.2.2.2, .int .i64 (x.1.pe), .int .i64 (x.1.sp), .int .i64 (x.1.sz)] 36)) 49 #[.int .u16 u0, .int .u16 u1]
  rw [World.size_alloc] at hA
  have HA := Lib.hid hA; clear hA
  obtain ⟨k0, k1, k2, k3, k4, k5, kf0, kf1, kf2, kf3, kf4, kf5⟩ := HK.out.c6
  obtain ⟨a0, a1, af0, af1⟩ := HA.out.c2
  have c0 : IntKind.i64.wrap u0 = u0 := IntWalk.i64_in _ (by omega)
  have c1 : IntKind.i64.wrap u1 = u1 := IntWalk.i64_in _ (by omega)
  have c3 : IntKind.i64.wrap (u0 + u1) = u0 + u1 := IntWalk.i64_in _ (by omega)
  have hte := fun W (e : Env W) => top_tryEffects W e
  have hw0 : wiB u0 0 10000000 = true := (wiB_iff _ _ _).2 (by omega)
  have htr := fun W (h : PtsAt W (.slice x.2.1 x.2.2.1 x.2.2.2) x.1.wv) (h2 : IntsAt W (.slice p cs.length c) cs) => top_tryRun x u0 cs p c W h h2 hcap
  rw [hw0, Bool.and_true] at htr
  clear hw0
  cases ht : trB x.1 cs
  · rw [ht] at htr
    clear hv hi
    have HTE := Lib.hid hte; clear hte
    have HTR := Lib.hid htr; clear htr
    go_enter Tryz.func13, Tryz.ntmps13
    go_wp2_with (first | (with_reducible refine ((HTR.out _ HV.out HI.out).mono ?_); rintro e w2 ⟨v, rfl, hv1, hb⟩; replace HK := Lib.hid (HK.out.keep hb); clear k0 k1 k2 k3 k4 k5 kf0 kf1 kf2 kf3 kf4 kf5; replace HA := Lib.hid (HA.out.keep hb); clear a0 a1 af0 af1; replace HV := Lib.hid (PtsAt.below HV.out hb); replace HI := Lib.hid (IntsAt.below HI.out hb); replace HB := Lib.hid (bch' HB.out hb); clear hb; obtain ⟨k0, k1, k2, k3, k4, k5, kf0, kf1, kf2, kf3, kf4, kf5⟩ := HK.out.c6; obtain ⟨a0, a1, af0, af1⟩ := HA.out.c2) | (with_reducible refine ((HTE.out _ (ENV.out.below HB.out)).mono ?_); rintro e w' ⟨rfl, hb⟩; replace HK := Lib.hid (HK.out.keep hb); clear k0 k1 k2 k3 k4 k5 kf0 kf1 kf2 kf3 kf4 kf5; replace HA := Lib.hid (HA.out.keep hb); clear a0 a1 af0 af1; replace HV := Lib.hid (PtsAt.below HV.out hb); replace HI := Lib.hid (IntsAt.below HI.out hb); replace HB := Lib.hid (bch' HB.out hb); clear hb; obtain ⟨k0, k1, k2, k3, k4, k5, kf0, kf1, kf2, kf3, kf4, kf5⟩ := HK.out.c6; obtain ⟨a0, a1, af0, af1⟩ := HA.out.c2))
    go_ret
    exact ⟨rfl, HB.out⟩
  · by_cases hn : 1048576 ≤ x.1.nu
    · rw [ht] at htr
      clear hv hi
      have HTE := Lib.hid hte; clear hte
      have HTR := Lib.hid htr; clear htr
      go_enter Tryz.func13, Tryz.ntmps13
      go_wp2_with (first | (with_reducible refine ((HTR.out _ HV.out HI.out).mono ?_); rintro e w2 ⟨v, rfl, hv1, hb⟩; replace HK := Lib.hid (HK.out.keep hb); clear k0 k1 k2 k3 k4 k5 kf0 kf1 kf2 kf3 kf4 kf5; replace HA := Lib.hid (HA.out.keep hb); clear a0 a1 af0 af1; replace HV := Lib.hid (PtsAt.below HV.out hb); replace HI := Lib.hid (IntsAt.below HI.out hb); replace HB := Lib.hid (bch' HB.out hb); clear hb; obtain ⟨k0, k1, k2, k3, k4, k5, kf0, kf1, kf2, kf3, kf4, kf5⟩ := HK.out.c6; obtain ⟨a0, a1, af0, af1⟩ := HA.out.c2) | (with_reducible refine ((HTE.out _ (ENV.out.below HB.out)).mono ?_); rintro e w' ⟨rfl, hb⟩; replace HK := Lib.hid (HK.out.keep hb); clear k0 k1 k2 k3 k4 k5 kf0 kf1 kf2 kf3 kf4 kf5; replace HA := Lib.hid (HA.out.keep hb); clear a0 a1 af0 af1; replace HV := Lib.hid (PtsAt.below HV.out hb); replace HI := Lib.hid (IntsAt.below HI.out hb); replace HB := Lib.hid (bch' HB.out hb); clear hb; obtain ⟨k0, k1, k2, k3, k4, k5, kf0, kf1, kf2, kf3, kf4, kf5⟩ := HK.out.c6; obtain ⟨a0, a1, af0, af1⟩ := HA.out.c2))
      go_ret
      exact ⟨rfl, HB.out⟩
    · have hz := (trB_on ht).1
      have hch := (trB_on ht).2.2.1
      have hnu := (trB_on ht).2.2.2
      have h6 := (trB_on ht).2.1
      have hww := wvE_zero (efOk hz).wv
      have hfl := fun W (h : PtsAt W (.slice x.2.1 x.2.2.1 x.2.2.2) x.1.wv) => own_flip x.1.wv (.slice x.2.1 x.2.2.1 x.2.2.2) W h (by have := hww.hi; omega)
      rw [(efOk hz).wv, onlyR_ok (efOk hz).wv] at hfl
      have hti := fun W (h : PtsAt W (.slice x.2.1 x.2.2.1 x.2.2.2) x.1.wv) => own_tidy_ok x.1.wv (.slice x.2.1 x.2.2.1 x.2.2.2) W h (by have := hww.hi; omega) (efOk hz).wv
      have d1 : IntKind.i64.wrap (x.1.nu + 1) = x.1.nu + 1 := IntWalk.i64_in _ (by omega)
      clear hww
      rw [ht] at htr
      have HT := Lib.hid ht; have HZ := Lib.hid hz; have HCH := Lib.hid hch; have HNU := Lib.hid hnu; have H6 := Lib.hid h6
      clear hv hi ht hz hch hnu h6
      have HTE := Lib.hid hte; clear hte
      have HTR := Lib.hid htr; clear htr
      have HFL := Lib.hid hfl; clear hfl
      have HTI := Lib.hid hti; clear hti
      go_enter Tryz.func13, Tryz.ntmps13
      go_upto_region 4 with (first | (with_reducible refine ((HTR.out _ HV.out HI.out).mono ?_); rintro e w2 ⟨v, rfl, hv1, hb⟩; replace HK := Lib.hid (HK.out.keep hb); clear k0 k1 k2 k3 k4 k5 kf0 kf1 kf2 kf3 kf4 kf5; replace HA := Lib.hid (HA.out.keep hb); clear a0 a1 af0 af1; replace HV := Lib.hid (PtsAt.below HV.out hb); replace HI := Lib.hid (IntsAt.below HI.out hb); replace HB := Lib.hid (bch' HB.out hb); clear hb; obtain ⟨k0, k1, k2, k3, k4, k5, kf0, kf1, kf2, kf3, kf4, kf5⟩ := HK.out.c6; obtain ⟨a0, a1, af0, af1⟩ := HA.out.c2))
      obtain ⟨M, pm, cm, rfl, hM, hMR, hMC⟩ := hv1 trivial
      have HN := Lib.hid (show RunsAt w2 (.slice pm M.length cm) [newR x.1.nu cs u0] from ⟨M, pm, cm, rfl, hM, hMR, hMC⟩)
      obtain ⟨q0, rfl⟩ := one_of hM
      clear hM hv1
      have HMR := Lib.hid hMR; have HMC := Lib.hid hMC; clear hMR hMC
      have hst := fun W (h1 : RowX encN 6 W pm [(newR x.1.nu cs u0, q0)]) (h2 : HasC W [(newR x.1.nu cs u0, q0)]) (h3 : IntsAt W (.slice p cs.length c) cs) => own_estart_at [newR x.1.nu cs u0] [(newR x.1.nu cs u0, q0)] pm cm (x.1.nu + 1) u0 cs p c W rfl h1 h2 (ordE_of (rns_one (rnE_newR HCH.out HNU.out (by omega)))) ((wiB_iff _ _ _).2 (by omega)) (rnE_newR HCH.out (by have := HNU.out; omega) (by omega)) (by rw [putL_two]; simp) 1 false (rns_one (rnE_newR HCH.out HNU.out (by omega))) belongs_two h3 hcap (by have := H6.out; omega)
      have hL : ∀ pc cc, insL [(newR x.1.nu cs u0, q0)] 1 false (newR (x.1.nu + 1) cs u0, ((pc : Option Addr), cs.length, (cc : Nat))) = [(newR x.1.nu cs u0, q0), (newR (x.1.nu + 1) cs u0, (pc, cs.length, cc))] := fun _ _ => rfl
      simp only [hL] at hst
      clear hL
      dsimp only [List.length_cons, List.length_nil] at hst HN ⊢
      have HST := Lib.hid hst; clear hst
      have hbw : w.heap.size < w2.heap.size := HK.out.lt
      have hbw2 : w.heap.size + 1 < w2.heap.size := HA.out.lt
      go_region
      have hb := (((Below.refl w2.heap.size w2).alloc (Nat.le_refl _) (.cells #[.int .i64 (x.1.nu), .int .i64 (x.1.at_), .slice x.2.1 x.2.2.1 x.2.2.2, .int .i64 (x.1.pe), .int .i64 (x.1.sp), .int .i64 (x.1.sz)] 36)).alloc (by simp) (.cells #[.int .i64 (x.1.nu), .int .i64 (x.1.at_), .slice x.2.1 x.2.2.1 x.2.2.2, .int .i64 (x.1.pe), .int .i64 (x.1.sp), .int .i64 (x.1.sz)] 36)).drew
      have hA2 := Blk.new (w2.alloc (.cells #[.int .i64 (x.1.nu), .int .i64 (x.1.at_), .slice x.2.1 x.2.2.1 x.2.2.2, .int .i64 (x.1.pe), .int .i64 (x.1.sp), .int .i64 (x.1.sz)] 36)) 36 #[.int .i64 (x.1.nu), .int .i64 (x.1.at_), .slice x.2.1 x.2.2.1 x.2.2.2, .int .i64 (x.1.pe), .int .i64 (x.1.sp), .int .i64 (x.1.sz)]
      rw [World.size_alloc] at hA2
      obtain ⟨g10, hg10⟩ : ∃ g, g = w2.heap.size + 1 := ⟨_, rfl⟩
      obtain ⟨g9, hg9⟩ : ∃ g, g = w2.heap.size := ⟨_, rfl⟩
      have HX := Lib.hid (((Blk.new w2 36 #[.int .i64 (x.1.nu), .int .i64 (x.1.at_), .slice x.2.1 x.2.2.1 x.2.2.2, .int .i64 (x.1.pe), .int .i64 (x.1.sp), .int .i64 (x.1.sz)]).alloc (.cells #[.int .i64 (x.1.nu), .int .i64 (x.1.at_), .slice x.2.1 x.2.2.1 x.2.2.2, .int .i64 (x.1.pe), .int .i64 (x.1.sp), .int .i64 (x.1.sz)] 36)).drew)
      have HY := Lib.hid (hA2.drew)
      rw [← hg10] at HY ⊢
      rw [← hg9] at HX ⊢
      rotate_left
      have hb := (((Below.refl w2.heap.size w2).alloc (Nat.le_refl _) (.cells #[.int .i64 (x.1.nu), .int .i64 (x.1.at_), .slice x.2.1 x.2.2.1 x.2.2.2, .int .i64 (x.1.pe), .int .i64 (x.1.sp), .int .i64 (x.1.sz)] 36)).alloc (by simp) (.cells #[.int .i64 (x.1.nu), .int .i64 (x.1.at_), .slice x.2.1 x.2.2.1 x.2.2.2, .int .i64 (x.1.pe), .int .i64 (x.1.sp), .int .i64 (x.1.sz)] 36)).drew
      have hA2 := Blk.new (w2.alloc (.cells #[.int .i64 (x.1.nu), .int .i64 (x.1.at_), .slice x.2.1 x.2.2.1 x.2.2.2, .int .i64 (x.1.pe), .int .i64 (x.1.sp), .int .i64 (x.1.sz)] 36)) 36 #[.int .i64 (x.1.nu), .int .i64 (x.1.at_), .slice x.2.1 x.2.2.1 x.2.2.2, .int .i64 (x.1.pe), .int .i64 (x.1.sp), .int .i64 (x.1.sz)]
      rw [World.size_alloc] at hA2
      obtain ⟨g10, hg10⟩ : ∃ g, g = w2.heap.size := ⟨_, rfl⟩
      obtain ⟨g9, hg9⟩ : ∃ g, g = w2.heap.size + 1 := ⟨_, rfl⟩
      have HX := Lib.hid (hA2.drew)
      have HY := Lib.hid (((Blk.new w2 36 #[.int .i64 (x.1.nu), .int .i64 (x.1.at_), .slice x.2.1 x.2.2.1 x.2.2.2, .int .i64 (x.1.pe), .int .i64 (x.1.sp), .int .i64 (x.1.sz)]).alloc (.cells #[.int .i64 (x.1.nu), .int .i64 (x.1.at_), .slice x.2.1 x.2.2.1 x.2.2.2, .int .i64 (x.1.pe), .int .i64 (x.1.sp), .int .i64 (x.1.sz)] 36)).drew)
      rw [← hg9] at HX ⊢
      rw [← hg10] at HY ⊢
      all_goals
        have hge9 : w2.heap.size ≤ g9 := by omega
        have hge10 : w2.heap.size ≤ g10 := by omega
        have hne : g9 ≠ g10 := by omega
        clear hA2
        obtain ⟨W4, hW4⟩ : ∃ X, X = ((w2.alloc (.cells #[.int .i64 (x.1.nu), .int .i64 (x.1.at_), .slice x.2.1 x.2.2.1 x.2.2.2, .int .i64 (x.1.pe), .int .i64 (x.1.sp), .int .i64 (x.1.sz)] 36)).alloc (.cells #[.int .i64 (x.1.nu), .int .i64 (x.1.at_), .slice x.2.1 x.2.2.1 x.2.2.2, .int .i64 (x.1.pe), .int .i64 (x.1.sp), .int .i64 (x.1.sz)] 36)).drew := ⟨_, rfl⟩
        rw [← hW4] at hb HX HY ⊢
        clear hW4 hg9 hg10
        have HBW := Lib.hid hb
        have HV2 := HV; have HI2 := HI; have HN0 := HN
        replace HK := Lib.hid (HK.out.keep hb); clear k0 k1 k2 k3 k4 k5 kf0 kf1 kf2 kf3 kf4 kf5; replace HA := Lib.hid (HA.out.keep hb); clear a0 a1 af0 af1; replace HN := Lib.hid (RunsAt.kept HN.out hb); replace HV := Lib.hid (PtsAt.below HV.out hb); replace HI := Lib.hid (IntsAt.below HI.out hb); replace HB := Lib.hid (bch' HB.out hb); clear hb; obtain ⟨k0, k1, k2, k3, k4, k5, kf0, kf1, kf2, kf3, kf4, kf5⟩ := HK.out.c6; obtain ⟨a0, a1, af0, af1⟩ := HA.out.c2
        obtain ⟨e0, e1, e2, e3, e4, e5, ef0, ef1, ef2, ef3, ef4, ef5⟩ := HX.out.c6
        obtain ⟨d0, d1, d2, d3, d4, d5, df0, df1, df2, df3, df4, df5⟩ := HY.out.c6
        go_wp2_with fail
        refine ((HFL.out _ HV.out).mono ?_)
        rintro e w5 ⟨vf, rfl, hpf, hb⟩
        obtain ⟨pf, cf, rfl⟩ : ∃ pf cf, vf = .slice pf (flipL x.1.wv).length cf := by obtain ⟨a, b, h, -⟩ := hpf; exact ⟨a, b, h⟩
        have HF := Lib.hid hpf; clear hpf
        obtain ⟨nf, hnf⟩ : ∃ n, n = (flipL x.1.wv).length := ⟨_, rfl⟩
        rw [← hnf] at HF ⊢
        clear hnf
        replace HBW := Lib.hid (bch' HBW.out hb)
        replace HK := Lib.hid (HK.out.keep hb); clear k0 k1 k2 k3 k4 k5 kf0 kf1 kf2 kf3 kf4 kf5; replace HA := Lib.hid (HA.out.keep hb); clear a0 a1 af0 af1; replace HX := Lib.hid (HX.out.keep hb); clear e0 e1 e2 e3 e4 e5 ef0 ef1 ef2 ef3 ef4 ef5; replace HY := Lib.hid (HY.out.keep hb); clear d0 d1 d2 d3 d4 d5 df0 df1 df2 df3 df4 df5; replace HN := Lib.hid (RunsAt.kept HN.out hb); replace HV := Lib.hid (PtsAt.below HV.out hb); replace HI := Lib.hid (IntsAt.below HI.out hb); replace HB := Lib.hid (bch' HB.out hb); clear hb; obtain ⟨k0, k1, k2, k3, k4, k5, kf0, kf1, kf2, kf3, kf4, kf5⟩ := HK.out.c6; obtain ⟨a0, a1, af0, af1⟩ := HA.out.c2; obtain ⟨e0, e1, e2, e3, e4, e5, ef0, ef1, ef2, ef3, ef4, ef5⟩ := HX.out.c6; obtain ⟨d0, d1, d2, d3, d4, d5, df0, df1, df2, df3, df4, df5⟩ := HY.out.c6
        go_wp2_with fail
        refine ((HTI.out _ HV.out).mono ?_)
        rintro e w6 ⟨vd, rfl, hpd, hb⟩
        obtain ⟨pd, cd, rfl⟩ : ∃ pd cd, vd = .slice pd (tidF x.1.wv.length 1 x.1.wv).length cd := by obtain ⟨a, b, h, -⟩ := hpd; exact ⟨a, b, h⟩
        have HD := Lib.hid hpd; clear hpd
        obtain ⟨nd, hnd⟩ : ∃ n, n = (tidF x.1.wv.length 1 x.1.wv).length := ⟨_, rfl⟩
        rw [← hnd] at HD ⊢
        clear hnd
        replace HBW := Lib.hid (bch' HBW.out hb)
        replace HK := Lib.hid (HK.out.keep hb); clear k0 k1 k2 k3 k4 k5 kf0 kf1 kf2 kf3 kf4 kf5; replace HA := Lib.hid (HA.out.keep hb); clear a0 a1 af0 af1; replace HX := Lib.hid (HX.out.keep hb); clear e0 e1 e2 e3 e4 e5 ef0 ef1 ef2 ef3 ef4 ef5; replace HY := Lib.hid (HY.out.keep hb); clear d0 d1 d2 d3 d4 d5 df0 df1 df2 df3 df4 df5; replace HN := Lib.hid (RunsAt.kept HN.out hb); replace HV := Lib.hid (PtsAt.below HV.out hb); replace HI := Lib.hid (IntsAt.below HI.out hb); replace HF := Lib.hid (PtsAt.below HF.out hb); replace HB := Lib.hid (bch' HB.out hb); clear hb; obtain ⟨k0, k1, k2, k3, k4, k5, kf0, kf1, kf2, kf3, kf4, kf5⟩ := HK.out.c6; obtain ⟨a0, a1, af0, af1⟩ := HA.out.c2; obtain ⟨e0, e1, e2, e3, e4, e5, ef0, ef1, ef2, ef3, ef4, ef5⟩ := HX.out.c6; obtain ⟨d0, d1, d2, d3, d4, d5, df0, df1, df2, df3, df4, df5⟩ := HY.out.c6
        go_wp2_with fail
        refine ((HST.out _ (HMR.out.kept HBW.out) (HMC.out.kept HBW.out) HI.out).mono ?_)
        rintro e w8 ⟨p7, c7, pc, cc, rfl, hrow, hp7, hic, hcc, hpc, hb⟩
        have HRW := Lib.hid hrow; have HIC := Lib.hid hic; have HCC := Lib.hid hcc
        have hp9 : ∀ a, p7 = some a → a.block ≠ g9 := fun a ha => by have h1 := hp7 a ha; have h2 := HX.out.lt; omega
        have hp10 : ∀ a, p7 = some a → a.block ≠ g10 := fun a ha => by have h1 := hp7 a ha; have h2 := HY.out.lt; omega
        have hq9 : ∀ a, pc = some a → a.block ≠ g9 := fun a ha => by have h1 := hpc a ha; have h2 := HX.out.lt; omega
        have hq10 : ∀ a, pc = some a → a.block ≠ g10 := fun a ha => by have h1 := hpc a ha; have h2 := HY.out.lt; omega
        have HP9 := Lib.hid hp9; clear hp9
        have HP10 := Lib.hid hp10; clear hp10
        have HQ9 := Lib.hid hq9; clear hq9
        have HQ10 := Lib.hid hq10; clear hq10
        clear hp7 hpc hrow hic hcc
        replace HBW := Lib.hid (bch' HBW.out hb)
        replace HK := Lib.hid (HK.out.keep hb); clear k0 k1 k2 k3 k4 k5 kf0 kf1 kf2 kf3 kf4 kf5; replace HA := Lib.hid (HA.out.keep hb); clear a0 a1 af0 af1; replace HX := Lib.hid (HX.out.keep hb); clear e0 e1 e2 e3 e4 e5 ef0 ef1 ef2 ef3 ef4 ef5; replace HY := Lib.hid (HY.out.keep hb); clear d0 d1 d2 d3 d4 d5 df0 df1 df2 df3 df4 df5; replace HN := Lib.hid (RunsAt.kept HN.out hb); replace HV := Lib.hid (PtsAt.below HV.out hb); replace HI := Lib.hid (IntsAt.below HI.out hb); replace HF := Lib.hid (PtsAt.below HF.out hb); replace HD := Lib.hid (PtsAt.below HD.out hb); replace HB := Lib.hid (bch' HB.out hb); clear hb; obtain ⟨k0, k1, k2, k3, k4, k5, kf0, kf1, kf2, kf3, kf4, kf5⟩ := HK.out.c6; obtain ⟨a0, a1, af0, af1⟩ := HA.out.c2; obtain ⟨e0, e1, e2, e3, e4, e5, ef0, ef1, ef2, ef3, ef4, ef5⟩ := HX.out.c6; obtain ⟨d0, d1, d2, d3, d4, d5, df0, df1, df2, df3, df4, df5⟩ := HY.out.c6
        go_upto_region 11 with fail
        have hww := wvE_zero (efOk HZ.out).wv
        have hl1 : 2 ≤ (flipL x.1.wv).length := by rw [flipL_length]; exact hww.lo
        have hl2 : 2 ≤ (tidF x.1.wv.length 1 x.1.wv).length := (tidF_wv _ 1 hww (by omega)).1.lo
        have hf9 := pts_not HF.out hl1 HX.out; have hf10 := pts_not HF.out hl1 HY.out; have hd9 := pts_not HD.out hl2 HX.out; have hd10 := pts_not HD.out hl2 HY.out
        have hbs : Below w2.heap.size w8 (((w8.setCell ⟨g9, 0, none⟩ (.int .i64 (x.1.nu + 1))).setCell ⟨g9, 2, none⟩ (.slice pf nf cf)).setCell ⟨g10, 2, none⟩ (.slice pd nd cd)) := (((Below.refl w2.heap.size w8).setCell (p := ⟨g9, 0, none⟩) hge9 _).setCell (p := ⟨g9, 2, none⟩) hge9 _).setCell (p := ⟨g10, 2, none⟩) hge10 _
        have hw2s := HBW.out.trans hbs
        have nX : Blk (((w8.setCell ⟨g9, 0, none⟩ (.int .i64 (x.1.nu + 1))).setCell ⟨g9, 2, none⟩ (.slice pf nf cf)).setCell ⟨g10, 2, none⟩ (.slice pd nd cd)) g9 36 #[.int .i64 (x.1.nu + 1), .int .i64 (x.1.at_), .slice pf nf cf, .int .i64 (x.1.pe), .int .i64 (x.1.sp), .int .i64 (x.1.sz)] := ((HX.out.set_ 0 (.int .i64 (x.1.nu + 1))).set_ 2 (.slice pf nf cf)).far (p := ⟨g10, 2, none⟩) hne _
        have nY : Blk (((w8.setCell ⟨g9, 0, none⟩ (.int .i64 (x.1.nu + 1))).setCell ⟨g9, 2, none⟩ (.slice pf nf cf)).setCell ⟨g10, 2, none⟩ (.slice pd nd cd)) g10 36 #[.int .i64 (x.1.nu), .int .i64 (x.1.at_), .slice pd nd cd, .int .i64 (x.1.pe), .int .i64 (x.1.sp), .int .i64 (x.1.sz)] := ((HY.out.far (p := ⟨g9, 0, none⟩) hne.symm _).far (p := ⟨g9, 2, none⟩) hne.symm _).set_ 2 (.slice pd nd cd)
        have nK : Blk (((w8.setCell ⟨g9, 0, none⟩ (.int .i64 (x.1.nu + 1))).setCell ⟨g9, 2, none⟩ (.slice pf nf cf)).setCell ⟨g10, 2, none⟩ (.slice pd nd cd)) w.heap.size 36 #[.int .i64 (x.1.nu), .int .i64 (x.1.at_), .slice x.2.1 x.2.2.1 x.2.2.2, .int .i64 (x.1.pe), .int .i64 (x.1.sp), .int .i64 (x.1.sz)] := (((HK.out.far (p := ⟨g9, 0, none⟩) (show w.heap.size ≠ g9 by omega) _).far (p := ⟨g9, 2, none⟩) (show w.heap.size ≠ g9 by omega) _).far (p := ⟨g10, 2, none⟩) (show w.heap.size ≠ g10 by omega) _)
        have nA : Blk (((w8.setCell ⟨g9, 0, none⟩ (.int .i64 (x.1.nu + 1))).setCell ⟨g9, 2, none⟩ (.slice pf nf cf)).setCell ⟨g10, 2, none⟩ (.slice pd nd cd)) (w.heap.size + 1) 49 #[.int .u16 u0, .int .u16 u1] := (((HA.out.far (p := ⟨g9, 0, none⟩) (show w.heap.size + 1 ≠ g9 by omega) _).far (p := ⟨g9, 2, none⟩) (show w.heap.size + 1 ≠ g9 by omega) _).far (p := ⟨g10, 2, none⟩) (show w.heap.size + 1 ≠ g10 by omega) _)
        have nF : PtsAt (((w8.setCell ⟨g9, 0, none⟩ (.int .i64 (x.1.nu + 1))).setCell ⟨g9, 2, none⟩ (.slice pf nf cf)).setCell ⟨g10, 2, none⟩ (.slice pd nd cd)) (.slice pf nf cf) (flipL x.1.wv) := (((HF.out.far hf9 0 _).far hf9 2 _).far hf10 2 _)
        have nD : PtsAt (((w8.setCell ⟨g9, 0, none⟩ (.int .i64 (x.1.nu + 1))).setCell ⟨g9, 2, none⟩ (.slice pf nf cf)).setCell ⟨g10, 2, none⟩ (.slice pd nd cd)) (.slice pd nd cd) (tidF x.1.wv.length 1 x.1.wv) := (((HD.out.far hd9 0 _).far hd9 2 _).far hd10 2 _)
        have nR : RunsAt (((w8.setCell ⟨g9, 0, none⟩ (.int .i64 (x.1.nu + 1))).setCell ⟨g9, 2, none⟩ (.slice pf nf cf)).setCell ⟨g10, 2, none⟩ (.slice pd nd cd)) (.slice p7 2 c7) [newR x.1.nu cs u0, newR (x.1.nu + 1) cs u0] := ⟨[(newR x.1.nu cs u0, q0), (newR (x.1.nu + 1) cs u0, (pc, cs.length, cc))], p7, c7, rfl, rfl, (((HRW.out.far HP9.out 0 _).far HP9.out 2 _).far HP10.out 2 _), fun y hy => by
          rcases List.mem_cons.1 hy with rfl | hy
          · exact ⟨IntsAt.below (HMC.out _ List.mem_cons_self).1 hw2s, (HMC.out _ List.mem_cons_self).2⟩
          · obtain rfl := List.mem_singleton.1 hy
            exact ⟨(((HIC.out.far HQ9.out 0 _).far HQ9.out 2 _).far HQ10.out 2 _), HCC.out⟩⟩
        have nN : RunsAt (((w8.setCell ⟨g9, 0, none⟩ (.int .i64 (x.1.nu + 1))).setCell ⟨g9, 2, none⟩ (.slice pf nf cf)).setCell ⟨g10, 2, none⟩ (.slice pd nd cd)) (.slice pm 1 cm) [newR x.1.nu cs u0] := RunsAt.kept HN0.out hw2s
        have nV := PtsAt.below HV2.out hw2s
        have nI := IntsAt.below HI2.out hw2s
        have nB : Below w.heap.size w (((w8.setCell ⟨g9, 0, none⟩ (.int .i64 (x.1.nu + 1))).setCell ⟨g9, 2, none⟩ (.slice pf nf cf)).setCell ⟨g10, 2, none⟩ (.slice pd nd cd)) := ((HB.out.setCell (p := ⟨g9, 0, none⟩) (show w.heap.size ≤ g9 by omega) _).setCell (p := ⟨g9, 2, none⟩) (show w.heap.size ≤ g9 by omega) _).setCell (p := ⟨g10, 2, none⟩) (show w.heap.size ≤ g10 by omega) _
        clear hww hl1 hl2 hf9 hf10 hd9 hd10 hbs hw2s HX HY HK HA HF HD HRW HIC HCC HN HN0 HV HV2 HI HI2 HB HBW HMR HMC HP9 HP10 HQ9 HQ10
        clear k0 k1 k2 k3 k4 k5 kf0 kf1 kf2 kf3 kf4 kf5
        clear a0 a1 af0 af1
        clear e0 e1 e2 e3 e4 e5 ef0 ef1 ef2 ef3 ef4 ef5
        clear d0 d1 d2 d3 d4 d5 df0 df1 df2 df3 df4 df5
        obtain ⟨W9, hW9⟩ : ∃ X, X = (((w8.setCell ⟨g9, 0, none⟩ (.int .i64 (x.1.nu + 1))).setCell ⟨g9, 2, none⟩ (.slice pf nf cf)).setCell ⟨g10, 2, none⟩ (.slice pd nd cd)) := ⟨_, rfl⟩
        rw [← hW9] at nX nY nK nA nF nD nR nN nV nI nB ⊢
        clear hW9
        have HX := Lib.hid nX; have HY := Lib.hid nY; have HK := Lib.hid nK; have HA := Lib.hid nA; have HF := Lib.hid nF; have HD := Lib.hid nD; have HN2 := Lib.hid nR; have HN := Lib.hid nN; have HV := Lib.hid nV; have HI := Lib.hid nI; have HB := Lib.hid nB
        clear nX nY nK nA nF nD nR nN nV nI nB
        obtain ⟨k0, k1, k2, k3, k4, k5, kf0, kf1, kf2, kf3, kf4, kf5⟩ := HK.out.c6
        obtain ⟨a0, a1, af0, af1⟩ := HA.out.c2
        obtain ⟨e0, e1, e2, e3, e4, e5, ef0, ef1, ef2, ef3, ef4, ef5⟩ := HX.out.c6
        obtain ⟨d0, d1, d2, d3, d4, d5, df0, df1, df2, df3, df4, df5⟩ := HY.out.c6
        go_wp2_with fail
        go_loopw [88] (fun s88 wr => ∃ i r : Nat, s88 = .int .i64 (i : Int) ∧ Hid (i + r = cs.length) ∧ Hid (Below w.heap.size w wr) ∧ Hid (Blk wr w.heap.size 36 #[.int .i64 (x.1.nu), .int .i64 (x.1.at_), .slice x.2.1 x.2.2.1 x.2.2.2, .int .i64 (x.1.pe), .int .i64 (x.1.sp), .int .i64 (x.1.sz)]) ∧ Hid (Blk wr (w.heap.size + 1) 49 #[.int .u16 u0, .int .u16 u1]) ∧ Hid (Blk wr g9 36 #[.int .i64 (x.1.nu + 1), .int .i64 (x.1.at_), .slice pf nf cf, .int .i64 (x.1.pe), .int .i64 (x.1.sp), .int .i64 (x.1.sz)]) ∧ Hid (Blk wr g10 36 #[.int .i64 (x.1.nu), .int .i64 (x.1.at_), .slice pd nd cd, .int .i64 (x.1.pe), .int .i64 (x.1.sp), .int .i64 (x.1.sz)]) ∧ Hid (RunsAt wr (.slice pm 1 cm) [newR x.1.nu cs u0]) ∧ Hid (RunsAt wr (.slice p7 2 c7) [newR x.1.nu cs u0, newR (x.1.nu + 1) cs u0]) ∧ Hid (PtsAt wr (.slice x.2.1 x.2.2.1 x.2.2.2) x.1.wv) ∧ Hid (PtsAt wr (.slice pf nf cf) (flipL x.1.wv)) ∧ Hid (PtsAt wr (.slice pd nd cd) (tidF x.1.wv.length 1 x.1.wv)) ∧ Hid (IntsAt wr (.slice p cs.length c) cs)) (fun s88 _ => cs.length - (intOf s88).toNat)
        case atStart => exact ⟨0, cs.length, rfl, Lib.hid (by omega), HB, HK, HA, HX, HY, HN, HN2, HV, HF, HD, HI⟩
        case round =>
          clear HB HK HA HX HY HN HN2 HV HF HD HI k0 k1 k2 k3 k4 k5 kf0 kf1 kf2 kf3 kf4 kf5 a0 a1 af0 af1 e0 e1 e2 e3 e4 e5 ef0 ef1 ef2 ef3 ef4 ef5 d0 d1 d2 d3 d4 d5 df0 df1 df2 df3 df4 df5
          obtain ⟨i, r, rfl, hkr, HB, HK, HA, HX, HY, HN, HN2, HV, HF, HD, HI⟩ := hrel
          obtain ⟨k0, k1, k2, k3, k4, k5, kf0, kf1, kf2, kf3, kf4, kf5⟩ := HK.out.c6
          obtain ⟨a0, a1, af0, af1⟩ := HA.out.c2
          obtain ⟨e0, e1, e2, e3, e4, e5, ef0, ef1, ef2, ef3, ef4, ef5⟩ := HX.out.c6
          obtain ⟨d0, d1, d2, d3, d4, d5, df0, df1, df2, df3, df4, df5⟩ := HY.out.c6
          cases r with
          | zero =>
            have hlt : ¬ (i : Int) < (cs.length : Int) := by have := hkr.out; omega
            go_wp2_with (first | (with_reducible refine ((HTE.out _ (ENV.out.below HB.out)).mono ?_); rintro e w' ⟨rfl, hb⟩; replace HB := Lib.hid (bch' HB.out hb); clear hb))
            go_ret
            exact ⟨rfl, HB.out⟩
          | succ r =>
            have hkl : i < cs.length := by have := hkr.out; omega
            have hlt : (i : Int) < (cs.length : Int) := by omega
            have hi0 : (0 : Int) ≤ (i : Int) := by omega
            have hun : IntKind.i64.wrap ((i : Int) + 1) = (i : Int) + 1 := IntWalk.i64_in _ (by have := H6.out; omega)
            have hsa := fun W lv (h1 : EfsAt W lv [x.1]) (h2 : RunsAt W (.slice pm 1 cm) [newR x.1.nu cs u0]) (e : Env W) => own_esum [x.1] [newR x.1.nu cs u0] lv (.slice pm 1 cm) (u0 + u1) (inI cs i) x.1.at_ W h1 h2 e
            rw [suE_alone HT.out hkl hu0.1 (by omega) (by omega)] at hsa
            have hsb := fun W lv (h1 : EfsAt W lv [x.1, flX x.1]) (h2 : RunsAt W (.slice p7 2 c7) [newR x.1.nu cs u0, newR (x.1.nu + 1) cs u0]) (e : Env W) => own_esum [x.1, flX x.1] [newR x.1.nu cs u0, newR (x.1.nu + 1) cs u0] lv (.slice p7 2 c7) (u0 + u1) (inI cs i) x.1.at_ W h1 h2 e
            rw [suE_two HZ.out hn HCH.out hkl hu0.1 (by omega) (by omega)] at hsb
            have hsd := fun W lv (h1 : EfsAt W lv [tdX x.1]) (h2 : RunsAt W (.slice pm 1 cm) [newR x.1.nu cs u0]) (e : Env W) => own_esum [tdX x.1] [newR x.1.nu cs u0] lv (.slice pm 1 cm) (u0 + u1) (inI cs i) x.1.at_ W h1 h2 e
            rw [suE_tidy HZ.out HCH.out hkl hu0.1 (by omega) (by omega)] at hsd
            have hof := fun W lv (h1 : EfsAt W lv [x.1, flX x.1]) (h2 : RunsAt W (.slice p7 2 c7) [newR x.1.nu cs u0, newR (x.1.nu + 1) cs u0]) (e : Env W) => own_eof [x.1, flX x.1] [newR x.1.nu cs u0, newR (x.1.nu + 1) cs u0] lv (.slice p7 2 c7) (x.1.nu + 1) (u0 + u1) (inI cs i) x.1.at_ W h1 h2 (by have := HNU.out; omega) (by have := HNU.out; omega) e
            rw [ofE_two HZ.out hn HCH.out hkl hu0.1 (by omega) (by omega)] at hof
            have fq : Fits 60 (offQ x.1 (i : Int) cs.length (100 * (u0 + u1 - u0))) := offQ_fits (efOk HZ.out) (by have := H6.out; unfold ofB; omega)
            have hck := fun W => r2_check (showR (offQ x.1 (i : Int) cs.length (100 * (u0 + u1 - u0)))) W (len_ok fq (by omega))
            rw [ratCheck_showR _ (fits_fit2 fq (by omega))] at hck
            have htn := fun W => r2_turned (offQ x.1 (i : Int) cs.length (100 * (u0 + u1 - u0))) W (fq.mono (by omega))
            dsimp only at hsa hsb hsd hof
            clear fq
            generalize showR (-offQ x.1 (i : Int) cs.length (100 * (u0 + u1 - u0))) = z2 at *
            generalize showR (offQ x.1 (i : Int) cs.length (100 * (u0 + u1 - u0))) = z1 at *
            have HSA := Lib.hid hsa; clear hsa
            have HSB := Lib.hid hsb; clear hsb
            have HSD := Lib.hid hsd; clear hsd
            have HOF := Lib.hid hof; clear hof
            have HCK := Lib.hid hck; clear hck
            have HTN := Lib.hid htn; clear htn
            obtain ⟨p9, c9, e9, hi9⟩ := HI.out
            injection e9 with e91 e92 e93
            subst e91 e93
            obtain ⟨bb, oo, rfl, hbb, hCC⟩ := hi9 (fun e => by subst e; exact absurd hkl (Nat.not_lt_zero _))
            have x0 : wr.cell? ⟨bb, oo + i, none⟩ = some (.int .i64 (inI cs i)) := hCC i hkl
            clear hCC hi9 e92
            go_upto_region 15 with fail
            have hb := (Below.refl wr.heap.size wr).alloc (Nat.le_refl _) (.cells #[.int .i64 (inI cs i), .int .i64 (x.1.at_)] 61)
            have HP := Lib.hid (Blk.new wr 61 #[.int .i64 (inI cs i), .int .i64 (x.1.at_)])
            obtain ⟨W5, hW5⟩ : ∃ X, X = wr.alloc (.cells #[.int .i64 (inI cs i), .int .i64 (x.1.at_)] 61) := ⟨_, rfl⟩
            obtain ⟨g5, hg5⟩ : ∃ g, g = wr.heap.size := ⟨_, rfl⟩
            rw [← hW5] at hb HP ⊢
            rw [← hg5] at HP ⊢
            replace HK := Lib.hid (HK.out.keep hb); clear k0 k1 k2 k3 k4 k5 kf0 kf1 kf2 kf3 kf4 kf5; replace HA := Lib.hid (HA.out.keep hb); clear a0 a1 af0 af1; replace HX := Lib.hid (HX.out.keep hb); clear e0 e1 e2 e3 e4 e5 ef0 ef1 ef2 ef3 ef4 ef5; replace HY := Lib.hid (HY.out.keep hb); clear d0 d1 d2 d3 d4 d5 df0 df1 df2 df3 df4 df5; replace HN := Lib.hid (RunsAt.kept HN.out hb); replace HN2 := Lib.hid (RunsAt.kept HN2.out hb); replace HV := Lib.hid (PtsAt.below HV.out hb); replace HF := Lib.hid (PtsAt.below HF.out hb); replace HD := Lib.hid (PtsAt.below HD.out hb); replace HI := Lib.hid (IntsAt.below HI.out hb); replace HB := Lib.hid (bch' HB.out hb); clear hb; obtain ⟨k0, k1, k2, k3, k4, k5, kf0, kf1, kf2, kf3, kf4, kf5⟩ := HK.out.c6; obtain ⟨a0, a1, af0, af1⟩ := HA.out.c2; obtain ⟨e0, e1, e2, e3, e4, e5, ef0, ef1, ef2, ef3, ef4, ef5⟩ := HX.out.c6; obtain ⟨d0, d1, d2, d3, d4, d5, df0, df1, df2, df3, df4, df5⟩ := HY.out.c6
            clear hW5 hg5 x0 hbb
            obtain ⟨b0, b1, bf0, bf1⟩ := HP.out.c2
            generalize inI cs i = z at *
            have hlp : g5 < W5.heap.size := HP.out.lt
            have hlx : g9 < W5.heap.size := HX.out.lt
            have hlk : w.heap.size < W5.heap.size := HK.out.lt
            go_wp2_with fail
            clear hlp hlx hlk
            have hb := (Below.refl W5.heap.size W5).alloc (Nat.le_refl _) (.cells #[.int .i64 (x.1.nu), .int .i64 (x.1.at_), .slice x.2.1 x.2.2.1 x.2.2.2, .int .i64 (x.1.pe), .int .i64 (x.1.sp), .int .i64 (x.1.sz)] 36)
            have HL := Lib.hid (efsAt_one (x := x) (c := 1) (Blk.new W5 36 (encE x).toArray) (HV.out.below hb))
            obtain ⟨gl, hgl⟩ : ∃ g, g = W5.heap.size := ⟨_, rfl⟩
            obtain ⟨Wa1, hWa⟩ : ∃ X, X = W5.alloc (.cells #[.int .i64 (x.1.nu), .int .i64 (x.1.at_), .slice x.2.1 x.2.2.1 x.2.2.2, .int .i64 (x.1.pe), .int .i64 (x.1.sp), .int .i64 (x.1.sz)] 36) := ⟨_, rfl⟩
            change Hid (EfsAt (W5.alloc (.cells #[.int .i64 (x.1.nu), .int .i64 (x.1.at_), .slice x.2.1 x.2.2.1 x.2.2.2, .int .i64 (x.1.pe), .int .i64 (x.1.sp), .int .i64 (x.1.sz)] 36)) (.slice (some ⟨W5.heap.size, 0, none⟩) 1 1) _) at HL
            rw [← hgl] at HL ⊢
            rw [← hWa] at hb HL ⊢
            replace HK := Lib.hid (HK.out.keep hb); clear k0 k1 k2 k3 k4 k5 kf0 kf1 kf2 kf3 kf4 kf5; replace HA := Lib.hid (HA.out.keep hb); clear a0 a1 af0 af1; replace HX := Lib.hid (HX.out.keep hb); clear e0 e1 e2 e3 e4 e5 ef0 ef1 ef2 ef3 ef4 ef5; replace HY := Lib.hid (HY.out.keep hb); clear d0 d1 d2 d3 d4 d5 df0 df1 df2 df3 df4 df5; replace HP := Lib.hid (HP.out.keep hb); clear b0 b1 bf0 bf1; replace HN := Lib.hid (RunsAt.kept HN.out hb); replace HN2 := Lib.hid (RunsAt.kept HN2.out hb); replace HV := Lib.hid (PtsAt.below HV.out hb); replace HF := Lib.hid (PtsAt.below HF.out hb); replace HD := Lib.hid (PtsAt.below HD.out hb); replace HI := Lib.hid (IntsAt.below HI.out hb); replace HB := Lib.hid (bch' HB.out hb); clear hb; obtain ⟨k0, k1, k2, k3, k4, k5, kf0, kf1, kf2, kf3, kf4, kf5⟩ := HK.out.c6; obtain ⟨a0, a1, af0, af1⟩ := HA.out.c2; obtain ⟨e0, e1, e2, e3, e4, e5, ef0, ef1, ef2, ef3, ef4, ef5⟩ := HX.out.c6; obtain ⟨d0, d1, d2, d3, d4, d5, df0, df1, df2, df3, df4, df5⟩ := HY.out.c6; obtain ⟨b0, b1, bf0, bf1⟩ := HP.out.c2
            clear hWa
            refine ((HSA.out _ _ HL.out HN.out (ENV.out.below HB.out)).mono ?_)
            rintro e wa1 ⟨rfl, hb⟩
            clear HL hgl
            replace HK := Lib.hid (HK.out.keep hb); clear k0 k1 k2 k3 k4 k5 kf0 kf1 kf2 kf3 kf4 kf5; replace HA := Lib.hid (HA.out.keep hb); clear a0 a1 af0 af1; replace HX := Lib.hid (HX.out.keep hb); clear e0 e1 e2 e3 e4 e5 ef0 ef1 ef2 ef3 ef4 ef5; replace HY := Lib.hid (HY.out.keep hb); clear d0 d1 d2 d3 d4 d5 df0 df1 df2 df3 df4 df5; replace HP := Lib.hid (HP.out.keep hb); clear b0 b1 bf0 bf1; replace HN := Lib.hid (RunsAt.kept HN.out hb); replace HN2 := Lib.hid (RunsAt.kept HN2.out hb); replace HV := Lib.hid (PtsAt.below HV.out hb); replace HF := Lib.hid (PtsAt.below HF.out hb); replace HD := Lib.hid (PtsAt.below HD.out hb); replace HI := Lib.hid (IntsAt.below HI.out hb); replace HB := Lib.hid (bch' HB.out hb); clear hb; obtain ⟨k0, k1, k2, k3, k4, k5, kf0, kf1, kf2, kf3, kf4, kf5⟩ := HK.out.c6; obtain ⟨a0, a1, af0, af1⟩ := HA.out.c2; obtain ⟨e0, e1, e2, e3, e4, e5, ef0, ef1, ef2, ef3, ef4, ef5⟩ := HX.out.c6; obtain ⟨d0, d1, d2, d3, d4, d5, df0, df1, df2, df3, df4, df5⟩ := HY.out.c6; obtain ⟨b0, b1, bf0, bf1⟩ := HP.out.c2
            have hlp : g5 < wa1.heap.size := HP.out.lt
            have hlx : g9 < wa1.heap.size := HX.out.lt
            have hlk : w.heap.size < wa1.heap.size := HK.out.lt
            go_wp2_with fail
            clear hlp hlx hlk
            have hb := (Below.refl wa1.heap.size wa1).alloc (Nat.le_refl _) (.cells #[.int .i64 (x.1.nu), .int .i64 (x.1.at_), .slice x.2.1 x.2.2.1 x.2.2.2, .int .i64 (x.1.pe), .int .i64 (x.1.sp), .int .i64 (x.1.sz), .int .i64 (x.1.nu + 1), .int .i64 (x.1.at_), .slice pf nf cf, .int .i64 (x.1.pe), .int .i64 (x.1.sp), .int .i64 (x.1.sz)] 36)
            have HL := Lib.hid (efsAt_two (x := x) (y := (flX x.1, (pf, nf, cf))) (c := 2) (Blk.new wa1 36 (encE x ++ encE (flX x.1, (pf, nf, cf))).toArray) (HV.out.below hb) (HF.out.below hb))
            obtain ⟨gl, hgl⟩ : ∃ g, g = wa1.heap.size := ⟨_, rfl⟩
            obtain ⟨Wa2, hWa⟩ : ∃ X, X = wa1.alloc (.cells #[.int .i64 (x.1.nu), .int .i64 (x.1.at_), .slice x.2.1 x.2.2.1 x.2.2.2, .int .i64 (x.1.pe), .int .i64 (x.1.sp), .int .i64 (x.1.sz), .int .i64 (x.1.nu + 1), .int .i64 (x.1.at_), .slice pf nf cf, .int .i64 (x.1.pe), .int .i64 (x.1.sp), .int .i64 (x.1.sz)] 36) := ⟨_, rfl⟩
            change Hid (EfsAt (wa1.alloc (.cells #[.int .i64 (x.1.nu), .int .i64 (x.1.at_), .slice x.2.1 x.2.2.1 x.2.2.2, .int .i64 (x.1.pe), .int .i64 (x.1.sp), .int .i64 (x.1.sz), .int .i64 (x.1.nu + 1), .int .i64 (x.1.at_), .slice pf nf cf, .int .i64 (x.1.pe), .int .i64 (x.1.sp), .int .i64 (x.1.sz)] 36)) (.slice (some ⟨wa1.heap.size, 0, none⟩) 2 2) _) at HL
            rw [← hgl] at HL ⊢
            rw [← hWa] at hb HL ⊢
            replace HK := Lib.hid (HK.out.keep hb); clear k0 k1 k2 k3 k4 k5 kf0 kf1 kf2 kf3 kf4 kf5; replace HA := Lib.hid (HA.out.keep hb); clear a0 a1 af0 af1; replace HX := Lib.hid (HX.out.keep hb); clear e0 e1 e2 e3 e4 e5 ef0 ef1 ef2 ef3 ef4 ef5; replace HY := Lib.hid (HY.out.keep hb); clear d0 d1 d2 d3 d4 d5 df0 df1 df2 df3 df4 df5; replace HP := Lib.hid (HP.out.keep hb); clear b0 b1 bf0 bf1; replace HN := Lib.hid (RunsAt.kept HN.out hb); replace HN2 := Lib.hid (RunsAt.kept HN2.out hb); replace HV := Lib.hid (PtsAt.below HV.out hb); replace HF := Lib.hid (PtsAt.below HF.out hb); replace HD := Lib.hid (PtsAt.below HD.out hb); replace HI := Lib.hid (IntsAt.below HI.out hb); replace HB := Lib.hid (bch' HB.out hb); clear hb; obtain ⟨k0, k1, k2, k3, k4, k5, kf0, kf1, kf2, kf3, kf4, kf5⟩ := HK.out.c6; obtain ⟨a0, a1, af0, af1⟩ := HA.out.c2; obtain ⟨e0, e1, e2, e3, e4, e5, ef0, ef1, ef2, ef3, ef4, ef5⟩ := HX.out.c6; obtain ⟨d0, d1, d2, d3, d4, d5, df0, df1, df2, df3, df4, df5⟩ := HY.out.c6; obtain ⟨b0, b1, bf0, bf1⟩ := HP.out.c2
            clear hWa
            refine ((HSB.out _ _ HL.out HN2.out (ENV.out.below HB.out)).mono ?_)
            rintro e wa2 ⟨rfl, hb⟩
            clear HL hgl
            replace HK := Lib.hid (HK.out.keep hb); clear k0 k1 k2 k3 k4 k5 kf0 kf1 kf2 kf3 kf4 kf5; replace HA := Lib.hid (HA.out.keep hb); clear a0 a1 af0 af1; replace HX := Lib.hid (HX.out.keep hb); clear e0 e1 e2 e3 e4 e5 ef0 ef1 ef2 ef3 ef4 ef5; replace HY := Lib.hid (HY.out.keep hb); clear d0 d1 d2 d3 d4 d5 df0 df1 df2 df3 df4 df5; replace HP := Lib.hid (HP.out.keep hb); clear b0 b1 bf0 bf1; replace HN := Lib.hid (RunsAt.kept HN.out hb); replace HN2 := Lib.hid (RunsAt.kept HN2.out hb); replace HV := Lib.hid (PtsAt.below HV.out hb); replace HF := Lib.hid (PtsAt.below HF.out hb); replace HD := Lib.hid (PtsAt.below HD.out hb); replace HI := Lib.hid (IntsAt.below HI.out hb); replace HB := Lib.hid (bch' HB.out hb); clear hb; obtain ⟨k0, k1, k2, k3, k4, k5, kf0, kf1, kf2, kf3, kf4, kf5⟩ := HK.out.c6; obtain ⟨a0, a1, af0, af1⟩ := HA.out.c2; obtain ⟨e0, e1, e2, e3, e4, e5, ef0, ef1, ef2, ef3, ef4, ef5⟩ := HX.out.c6; obtain ⟨d0, d1, d2, d3, d4, d5, df0, df1, df2, df3, df4, df5⟩ := HY.out.c6; obtain ⟨b0, b1, bf0, bf1⟩ := HP.out.c2
            have hlp : g5 < wa2.heap.size := HP.out.lt
            have hlx : g9 < wa2.heap.size := HX.out.lt
            have hlk : w.heap.size < wa2.heap.size := HK.out.lt
            go_wp2_with fail
            clear hlp hlx hlk
            have hb := (Below.refl wa2.heap.size wa2).alloc (Nat.le_refl _) (.cells #[.int .i64 (x.1.nu), .int .i64 (x.1.at_), .slice pd nd cd, .int .i64 (x.1.pe), .int .i64 (x.1.sp), .int .i64 (x.1.sz)] 36)
            have HL := Lib.hid (efsAt_one (x := (tdX x.1, (pd, nd, cd))) (c := 1) (Blk.new wa2 36 (encE (tdX x.1, (pd, nd, cd))).toArray) (HD.out.below hb))
            obtain ⟨gl, hgl⟩ : ∃ g, g = wa2.heap.size := ⟨_, rfl⟩
            obtain ⟨Wa3, hWa⟩ : ∃ X, X = wa2.alloc (.cells #[.int .i64 (x.1.nu), .int .i64 (x.1.at_), .slice pd nd cd, .int .i64 (x.1.pe), .int .i64 (x.1.sp), .int .i64 (x.1.sz)] 36) := ⟨_, rfl⟩
            change Hid (EfsAt (wa2.alloc (.cells #[.int .i64 (x.1.nu), .int .i64 (x.1.at_), .slice pd nd cd, .int .i64 (x.1.pe), .int .i64 (x.1.sp), .int .i64 (x.1.sz)] 36)) (.slice (some ⟨wa2.heap.size, 0, none⟩) 1 1) _) at HL
            rw [← hgl] at HL ⊢
            rw [← hWa] at hb HL ⊢
            replace HK := Lib.hid (HK.out.keep hb); clear k0 k1 k2 k3 k4 k5 kf0 kf1 kf2 kf3 kf4 kf5; replace HA := Lib.hid (HA.out.keep hb); clear a0 a1 af0 af1; replace HX := Lib.hid (HX.out.keep hb); clear e0 e1 e2 e3 e4 e5 ef0 ef1 ef2 ef3 ef4 ef5; replace HY := Lib.hid (HY.out.keep hb); clear d0 d1 d2 d3 d4 d5 df0 df1 df2 df3 df4 df5; replace HP := Lib.hid (HP.out.keep hb); clear b0 b1 bf0 bf1; replace HN := Lib.hid (RunsAt.kept HN.out hb); replace HN2 := Lib.hid (RunsAt.kept HN2.out hb); replace HV := Lib.hid (PtsAt.below HV.out hb); replace HF := Lib.hid (PtsAt.below HF.out hb); replace HD := Lib.hid (PtsAt.below HD.out hb); replace HI := Lib.hid (IntsAt.below HI.out hb); replace HB := Lib.hid (bch' HB.out hb); clear hb; obtain ⟨k0, k1, k2, k3, k4, k5, kf0, kf1, kf2, kf3, kf4, kf5⟩ := HK.out.c6; obtain ⟨a0, a1, af0, af1⟩ := HA.out.c2; obtain ⟨e0, e1, e2, e3, e4, e5, ef0, ef1, ef2, ef3, ef4, ef5⟩ := HX.out.c6; obtain ⟨d0, d1, d2, d3, d4, d5, df0, df1, df2, df3, df4, df5⟩ := HY.out.c6; obtain ⟨b0, b1, bf0, bf1⟩ := HP.out.c2
            clear hWa
            refine ((HSD.out _ _ HL.out HN.out (ENV.out.below HB.out)).mono ?_)
            rintro e wa3 ⟨rfl, hb⟩
            clear HL hgl
            replace HK := Lib.hid (HK.out.keep hb); clear k0 k1 k2 k3 k4 k5 kf0 kf1 kf2 kf3 kf4 kf5; replace HA := Lib.hid (HA.out.keep hb); clear a0 a1 af0 af1; replace HX := Lib.hid (HX.out.keep hb); clear e0 e1 e2 e3 e4 e5 ef0 ef1 ef2 ef3 ef4 ef5; replace HY := Lib.hid (HY.out.keep hb); clear d0 d1 d2 d3 d4 d5 df0 df1 df2 df3 df4 df5; replace HP := Lib.hid (HP.out.keep hb); clear b0 b1 bf0 bf1; replace HN := Lib.hid (RunsAt.kept HN.out hb); replace HN2 := Lib.hid (RunsAt.kept HN2.out hb); replace HV := Lib.hid (PtsAt.below HV.out hb); replace HF := Lib.hid (PtsAt.below HF.out hb); replace HD := Lib.hid (PtsAt.below HD.out hb); replace HI := Lib.hid (IntsAt.below HI.out hb); replace HB := Lib.hid (bch' HB.out hb); clear hb; obtain ⟨k0, k1, k2, k3, k4, k5, kf0, kf1, kf2, kf3, kf4, kf5⟩ := HK.out.c6; obtain ⟨a0, a1, af0, af1⟩ := HA.out.c2; obtain ⟨e0, e1, e2, e3, e4, e5, ef0, ef1, ef2, ef3, ef4, ef5⟩ := HX.out.c6; obtain ⟨d0, d1, d2, d3, d4, d5, df0, df1, df2, df3, df4, df5⟩ := HY.out.c6; obtain ⟨b0, b1, bf0, bf1⟩ := HP.out.c2
            have hlp : g5 < wa3.heap.size := HP.out.lt
            have hlx : g9 < wa3.heap.size := HX.out.lt
            have hlk : w.heap.size < wa3.heap.size := HK.out.lt
            go_wp2_with fail
            clear hlp hlx hlk
            have hb := (Below.refl wa3.heap.size wa3).alloc (Nat.le_refl _) (.cells #[.int .i64 (x.1.nu), .int .i64 (x.1.at_), .slice x.2.1 x.2.2.1 x.2.2.2, .int .i64 (x.1.pe), .int .i64 (x.1.sp), .int .i64 (x.1.sz), .int .i64 (x.1.nu + 1), .int .i64 (x.1.at_), .slice pf nf cf, .int .i64 (x.1.pe), .int .i64 (x.1.sp), .int .i64 (x.1.sz)] 36)
            have HL := Lib.hid (efsAt_two (x := x) (y := (flX x.1, (pf, nf, cf))) (c := 2) (Blk.new wa3 36 (encE x ++ encE (flX x.1, (pf, nf, cf))).toArray) (HV.out.below hb) (HF.out.below hb))
            obtain ⟨gl, hgl⟩ : ∃ g, g = wa3.heap.size := ⟨_, rfl⟩
            obtain ⟨Wa4, hWa⟩ : ∃ X, X = wa3.alloc (.cells #[.int .i64 (x.1.nu), .int .i64 (x.1.at_), .slice x.2.1 x.2.2.1 x.2.2.2, .int .i64 (x.1.pe), .int .i64 (x.1.sp), .int .i64 (x.1.sz), .int .i64 (x.1.nu + 1), .int .i64 (x.1.at_), .slice pf nf cf, .int .i64 (x.1.pe), .int .i64 (x.1.sp), .int .i64 (x.1.sz)] 36) := ⟨_, rfl⟩
            change Hid (EfsAt (wa3.alloc (.cells #[.int .i64 (x.1.nu), .int .i64 (x.1.at_), .slice x.2.1 x.2.2.1 x.2.2.2, .int .i64 (x.1.pe), .int .i64 (x.1.sp), .int .i64 (x.1.sz), .int .i64 (x.1.nu + 1), .int .i64 (x.1.at_), .slice pf nf cf, .int .i64 (x.1.pe), .int .i64 (x.1.sp), .int .i64 (x.1.sz)] 36)) (.slice (some ⟨wa3.heap.size, 0, none⟩) 2 2) _) at HL
            rw [← hgl] at HL ⊢
            rw [← hWa] at hb HL ⊢
            replace HK := Lib.hid (HK.out.keep hb); clear k0 k1 k2 k3 k4 k5 kf0 kf1 kf2 kf3 kf4 kf5; replace HA := Lib.hid (HA.out.keep hb); clear a0 a1 af0 af1; replace HX := Lib.hid (HX.out.keep hb); clear e0 e1 e2 e3 e4 e5 ef0 ef1 ef2 ef3 ef4 ef5; replace HY := Lib.hid (HY.out.keep hb); clear d0 d1 d2 d3 d4 d5 df0 df1 df2 df3 df4 df5; replace HP := Lib.hid (HP.out.keep hb); clear b0 b1 bf0 bf1; replace HN := Lib.hid (RunsAt.kept HN.out hb); replace HN2 := Lib.hid (RunsAt.kept HN2.out hb); replace HV := Lib.hid (PtsAt.below HV.out hb); replace HF := Lib.hid (PtsAt.below HF.out hb); replace HD := Lib.hid (PtsAt.below HD.out hb); replace HI := Lib.hid (IntsAt.below HI.out hb); replace HB := Lib.hid (bch' HB.out hb); clear hb; obtain ⟨k0, k1, k2, k3, k4, k5, kf0, kf1, kf2, kf3, kf4, kf5⟩ := HK.out.c6; obtain ⟨a0, a1, af0, af1⟩ := HA.out.c2; obtain ⟨e0, e1, e2, e3, e4, e5, ef0, ef1, ef2, ef3, ef4, ef5⟩ := HX.out.c6; obtain ⟨d0, d1, d2, d3, d4, d5, df0, df1, df2, df3, df4, df5⟩ := HY.out.c6; obtain ⟨b0, b1, bf0, bf1⟩ := HP.out.c2
            clear hWa
            refine ((HOF.out _ _ HL.out HN2.out (ENV.out.below HB.out)).mono ?_)
            rintro e wa4 ⟨rfl, hb⟩
            clear HL hgl
            replace HK := Lib.hid (HK.out.keep hb); clear k0 k1 k2 k3 k4 k5 kf0 kf1 kf2 kf3 kf4 kf5; replace HA := Lib.hid (HA.out.keep hb); clear a0 a1 af0 af1; replace HX := Lib.hid (HX.out.keep hb); clear e0 e1 e2 e3 e4 e5 ef0 ef1 ef2 ef3 ef4 ef5; replace HY := Lib.hid (HY.out.keep hb); clear d0 d1 d2 d3 d4 d5 df0 df1 df2 df3 df4 df5; replace HP := Lib.hid (HP.out.keep hb); clear b0 b1 bf0 bf1; replace HN := Lib.hid (RunsAt.kept HN.out hb); replace HN2 := Lib.hid (RunsAt.kept HN2.out hb); replace HV := Lib.hid (PtsAt.below HV.out hb); replace HF := Lib.hid (PtsAt.below HF.out hb); replace HD := Lib.hid (PtsAt.below HD.out hb); replace HI := Lib.hid (IntsAt.below HI.out hb); replace HB := Lib.hid (bch' HB.out hb); clear hb; obtain ⟨k0, k1, k2, k3, k4, k5, kf0, kf1, kf2, kf3, kf4, kf5⟩ := HK.out.c6; obtain ⟨a0, a1, af0, af1⟩ := HA.out.c2; obtain ⟨e0, e1, e2, e3, e4, e5, ef0, ef1, ef2, ef3, ef4, ef5⟩ := HX.out.c6; obtain ⟨d0, d1, d2, d3, d4, d5, df0, df1, df2, df3, df4, df5⟩ := HY.out.c6; obtain ⟨b0, b1, bf0, bf1⟩ := HP.out.c2
            go_wp2_with (first | (with_reducible refine ((HCK.out _).mono ?_); rintro e w' ⟨rfl, hb⟩; replace HK := Lib.hid (HK.out.keep hb); clear k0 k1 k2 k3 k4 k5 kf0 kf1 kf2 kf3 kf4 kf5; replace HA := Lib.hid (HA.out.keep hb); clear a0 a1 af0 af1; replace HX := Lib.hid (HX.out.keep hb); clear e0 e1 e2 e3 e4 e5 ef0 ef1 ef2 ef3 ef4 ef5; replace HY := Lib.hid (HY.out.keep hb); clear d0 d1 d2 d3 d4 d5 df0 df1 df2 df3 df4 df5; replace HP := Lib.hid (HP.out.keep hb); clear b0 b1 bf0 bf1; replace HN := Lib.hid (RunsAt.kept HN.out hb); replace HN2 := Lib.hid (RunsAt.kept HN2.out hb); replace HV := Lib.hid (PtsAt.below HV.out hb); replace HF := Lib.hid (PtsAt.below HF.out hb); replace HD := Lib.hid (PtsAt.below HD.out hb); replace HI := Lib.hid (IntsAt.below HI.out hb); replace HB := Lib.hid (bch' HB.out hb); clear hb; obtain ⟨k0, k1, k2, k3, k4, k5, kf0, kf1, kf2, kf3, kf4, kf5⟩ := HK.out.c6; obtain ⟨a0, a1, af0, af1⟩ := HA.out.c2; obtain ⟨e0, e1, e2, e3, e4, e5, ef0, ef1, ef2, ef3, ef4, ef5⟩ := HX.out.c6; obtain ⟨d0, d1, d2, d3, d4, d5, df0, df1, df2, df3, df4, df5⟩ := HY.out.c6; obtain ⟨b0, b1, bf0, bf1⟩ := HP.out.c2) | (with_reducible refine ((HTN.out _).mono ?_); rintro e w' ⟨rfl, rfl⟩))
            go_roundw
            case rel => exact ⟨i + 1, r, by first | rfl | simp, Lib.hid (by have := hkr.out; omega), HB, HK, HA, HX, HY, HN, HN2, HV, HF, HD, HI⟩
            case measure => first | (simp [intOf]; done) | (simp [intOf]; omega)
end Go.Proofs.YtbamcfhmkohbmaaGreatDoor
