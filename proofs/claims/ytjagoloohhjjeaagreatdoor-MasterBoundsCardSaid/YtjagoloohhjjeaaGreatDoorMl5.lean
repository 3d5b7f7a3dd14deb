/-
  Law 30: right, within; the law MasterBounds.
-/
import Derived.Test.YtjagoloohhjjeaaGreatDoorMz
set_option linter.unusedVariables false
set_option linter.unusedSimpArgs false
namespace Lum
open Go Go.RowKit Go.Shelf
open Go.Lib (decDigits itoa)
theorem facQ_black (su : List Sb) (fd : List Fdr) (ch t : Int) : ∀ k, k ≤ su.length → facQ 0 su fd ch t k = 0 := by
  intro k
  induction k with
  | zero => intro _; rfl
  | succ k ih => intro h; rw [facQ_succ 0 fd ch t (by omega), ih (by omega), Rat.zero_mul]
/-- What a level behind the masters is. -/
theorem bnd_one {x f : Rat} (fx : Fits 6 x) (ff : Fits 3600 f) (f0 : 0 ≤ f) (f1 : f ≤ 1) (x0 : 0 ≤ x) (x1 : x ≤ ((65535 : Int) : Rat)) :
    apT (showR x) (showR f) 0 = (showR (x * f), 0) ∧ ratCheck (showR (x * f)) = 0 ∧ ¬ 0 < sgn (x * f) x ∧ ¬ sgn (x * f) 0 < 0 := by
  have w1 : wiE (showR x) 65535 = 0 := wiE_in (check_gen fx (by omega)) (fun h => h.elim (fun g => absurd g (Rat.not_lt.2 x0)) (fun g => absurd g (Rat.not_lt.2 x1)))
  have w2 : wiE (showR f) 1 = 0 := wiE_in (check_gen ff (by omega)) (fun h => h.elim (fun g => absurd g (Rat.not_lt.2 f0)) (fun g => absurd g (Rat.not_lt.2 f1)))
  refine ⟨?_, check_gen (fits_mul2 fx ff) (by omega), fun h => ?_, fun h => ?_⟩
  · rw [apT_ok w1 w2 (by omega) rfl, valR_showR, valR_showR]
  · have := (sgn_gt _ _).1 h
    exact absurd this (Rat.not_lt.2 (mul_le_of x0 f1))
  · have := (sgn_lt _ _).1 h
    exact absurd this (Rat.not_lt.2 (Rat.mul_nonneg x0 f0))
end Lum
namespace Go.Proofs.YtjagoloohhjjeaaGreatDoor
open Go.RowKit Go.Shelf Lum
open Go.Lib (decDigits itoa)
attribute [local go_sem] bs_get bs_extract_end bs_extract_from bs_extract bs_append

set_option maxRecDepth 100000 in
set_option maxHeartbeats 4000000 in
theorem l30_within (q : Rat) (w : World) (fq : Fits 3600 q) (q0 : 0 ≤ q) (q1 : q ≤ 1) :
    Calls Tryz.prog 19 #[.string ⟨(showR q).toArray⟩] w fun e w' => e = .returned (.bool (true)) ∧ Below w.heap.size w w' := by
  have HB := Lib.hid (Below.refl w.heap.size w)
  have hc := fun W => r2_check (showR q) W (len_ok fq (by omega))
  rw [check_gen fq (by omega)] at hc
  have o1 := fun W => r2_order q 0 W (fq.mono (by omega)) (fits_0.mono (by omega))
  rw [showR_zero] at o1
  have o2 := fun W => r2_order q 1 W (fq.mono (by omega)) (fits_1.mono (by omega))
  rw [show showR 1 = [49] by decide +kernel] at o2
  have s1 : (0 : Int) ≤ sgn q 0 := Int.not_lt.1 fun h => absurd ((sgn_lt _ _).1 h) (Rat.not_lt.2 q0)
  have s2 : sgn q 1 ≤ (0 : Int) := Int.not_lt.1 fun h => absurd ((sgn_gt _ _).1 h) (Rat.not_lt.2 q1)
  generalize sgn q 0 = z1 at *
  generalize sgn q 1 = z2 at *
  clear fq q0 q1
  generalize showR q = tq at *
  have HC := Lib.hid hc; clear hc
  have HO1 := Lib.hid o1; clear o1
  have HO2 := Lib.hid o2; clear o2
  go_enter Tryz.func19, Tryz.ntmps19
  go_wp2_with (first | (with_reducible refine ((HC.out _).mono ?_); rintro e w' ⟨rfl, hb⟩; replace HB := Lib.hid (bch' HB.out hb); clear hb) | (with_reducible refine ((HO1.out _).mono ?_); rintro e w' ⟨rfl, hb⟩; replace HB := Lib.hid (bch' HB.out hb); clear hb) | (with_reducible refine ((HO2.out _).mono ?_); rintro e w' ⟨rfl, hb⟩; replace HB := Lib.hid (bch' HB.out hb); clear hb))
  go_ret
  exact ⟨rfl, HB.out⟩

set_option maxRecDepth 100000 in
set_option maxHeartbeats 4000000 in
theorem l30_right (tz st ti : Int) (bl : Bool) (fr : Txt) (sv fv : Value) (su : List Sb) (fd : List Fdr) (ch : Int) (w : World) (hs : SbsAt w sv su) (hf : FdsAt w fv fd) :
    Calls Tryz.prog 18 #[.agg #[.string ⟨(fr).toArray⟩, .int .i64 tz, .int .i64 st, .int .i64 ti, .bool (bl), sv, fv], .int .i64 ch] w fun e w' => FewB (onE fr tz st ti su fd ch = 0 ∧ fr.length ≤ 60 ∧ ∀ i, i < fd.length → (fdv fd i).fr.length ≤ 60) w e w' := by
  obtain ⟨ps, zs, rfl⟩ : ∃ ps zs, sv = .slice ps su.length zs := by obtain ⟨a, b, e, -⟩ := hs; exact ⟨a, b, e⟩
  obtain ⟨pf, zf, rfl⟩ : ∃ pf zf, fv = .slice pf fd.length zf := by obtain ⟨a, b, e, -⟩ := hf; exact ⟨a, b, e⟩
  have hal := (Below.refl w.heap.size w).alloc (Nat.le_refl _) (.cells #[.string ⟨(fr).toArray⟩, .int .i64 tz, .int .i64 st, .int .i64 ti, .bool (bl), (.slice ps su.length zs), (.slice pf fd.length zf)] 28)
  have HS := Lib.hid (SbsAt.kept hs hal)
  have HF := Lib.hid (FdsAt.kept hf hal)
  have HB := Lib.hid hal
  clear hal hs hf
  have HK := Lib.hid (Blk.new w 28 #[.string ⟨(fr).toArray⟩, .int .i64 tz, .int .i64 st, .int .i64 ti, .bool (bl), (.slice ps su.length zs), (.slice pf fd.length zf)])
  obtain ⟨k0, k1, k2, k3, k4, k5, k6, kf0, kf1, kf2, kf3, kf4, kf5, kf6⟩ := HK.out.c7
  have how := fun W => l30_own tz st ti bl fr ps pf su.length zs fd.length zf W
  have hfe := fun W (h1 : SbsAt W (.slice ps su.length zs) su) (h2 : FdsAt W (.slice pf fd.length zf) fd) => r30_few tz st ti bl fr (.slice ps su.length zs) (.slice pf fd.length zf) su fd W h1 h2
  have HOW := Lib.hid how; clear how
  have HFE := Lib.hid hfe; clear hfe
  go_enter Tryz.func18, Tryz.ntmps18
  go_wp2_with (first | (with_reducible refine ((HOW.out _).mono ?_); rintro e w' ⟨rfl, hb⟩; replace HK := Lib.hid (HK.out.keep hb); clear k0 k1 k2 k3 k4 k5 k6 kf0 kf1 kf2 kf3 kf4 kf5 kf6; replace HS := Lib.hid (SbsAt.kept HS.out hb); replace HF := Lib.hid (FdsAt.kept HF.out hb); replace HB := Lib.hid (bch' HB.out hb); clear hb; obtain ⟨k0, k1, k2, k3, k4, k5, k6, kf0, kf1, kf2, kf3, kf4, kf5, kf6⟩ := HK.out.c7))
  refine ((HFE.out _ HS.out HF.out).mono ?_)
  rintro e w2 ⟨b1, rfl, hq, hb⟩
  replace HK := Lib.hid (HK.out.keep hb); clear k0 k1 k2 k3 k4 k5 k6 kf0 kf1 kf2 kf3 kf4 kf5 kf6; replace HS := Lib.hid (SbsAt.kept HS.out hb); replace HF := Lib.hid (FdsAt.kept HF.out hb); replace HB := Lib.hid (bch' HB.out hb); clear hb; obtain ⟨k0, k1, k2, k3, k4, k5, k6, kf0, kf1, kf2, kf3, kf4, kf5, kf6⟩ := HK.out.c7
  cases b1
  · go_wp2_with fail
    go_ret
    exact ⟨_, rfl, fun h => absurd h (by decide), HB.out⟩
  · obtain ⟨hx, hl⟩ := hq rfl
    clear hq
    have hc := fun W (h1 : SbsAt W (.slice ps su.length zs) su) (h2 : FdsAt W (.slice pf fd.length zf) fd) => r30_check tz st ti bl fr (.slice ps su.length zs) (.slice pf fd.length zf) su fd W h1 h2 (by omega) (fun i hi => Nat.le_trans (hl i hi) (by omega))
    by_cases hz : maE fr tz st ti su fd = 0
    · rw [hz] at hc
      have HC := Lib.hid hc; clear hc
      by_cases o1 : (1 : Int) ≤ ch
      · by_cases o2 : ch ≤ (999 : Int)
        · go_wp2_with (first | (with_reducible refine ((HOW.out _).mono ?_); rintro e w' ⟨rfl, hb⟩; replace HK := Lib.hid (HK.out.keep hb); clear k0 k1 k2 k3 k4 k5 k6 kf0 kf1 kf2 kf3 kf4 kf5 kf6; replace HS := Lib.hid (SbsAt.kept HS.out hb); replace HF := Lib.hid (FdsAt.kept HF.out hb); replace HB := Lib.hid (bch' HB.out hb); clear hb; obtain ⟨k0, k1, k2, k3, k4, k5, k6, kf0, kf1, kf2, kf3, kf4, kf5, kf6⟩ := HK.out.c7) | (with_reducible refine ((HC.out _ HS.out HF.out).mono ?_); rintro e w' ⟨rfl, hb⟩; replace HK := Lib.hid (HK.out.keep hb); clear k0 k1 k2 k3 k4 k5 k6 kf0 kf1 kf2 kf3 kf4 kf5 kf6; replace HS := Lib.hid (SbsAt.kept HS.out hb); replace HF := Lib.hid (FdsAt.kept HF.out hb); replace HB := Lib.hid (bch' HB.out hb); clear hb; obtain ⟨k0, k1, k2, k3, k4, k5, k6, kf0, kf1, kf2, kf3, kf4, kf5, kf6⟩ := HK.out.c7))
          go_ret
          exact ⟨_, rfl, fun _ => ⟨onE_ok hz (by omega), hx, hl⟩, HB.out⟩
        · go_wp2_with (first | (with_reducible refine ((HOW.out _).mono ?_); rintro e w' ⟨rfl, hb⟩; replace HK := Lib.hid (HK.out.keep hb); clear k0 k1 k2 k3 k4 k5 k6 kf0 kf1 kf2 kf3 kf4 kf5 kf6; replace HS := Lib.hid (SbsAt.kept HS.out hb); replace HF := Lib.hid (FdsAt.kept HF.out hb); replace HB := Lib.hid (bch' HB.out hb); clear hb; obtain ⟨k0, k1, k2, k3, k4, k5, k6, kf0, kf1, kf2, kf3, kf4, kf5, kf6⟩ := HK.out.c7) | (with_reducible refine ((HC.out _ HS.out HF.out).mono ?_); rintro e w' ⟨rfl, hb⟩; replace HK := Lib.hid (HK.out.keep hb); clear k0 k1 k2 k3 k4 k5 k6 kf0 kf1 kf2 kf3 kf4 kf5 kf6; replace HS := Lib.hid (SbsAt.kept HS.out hb); replace HF := Lib.hid (FdsAt.kept HF.out hb); replace HB := Lib.hid (bch' HB.out hb); clear hb; obtain ⟨k0, k1, k2, k3, k4, k5, k6, kf0, kf1, kf2, kf3, kf4, kf5, kf6⟩ := HK.out.c7))
          go_ret
          exact ⟨_, rfl, fun h => absurd (of_decide_eq_true h) (by omega), HB.out⟩
      · go_wp2_with (first | (with_reducible refine ((HOW.out _).mono ?_); rintro e w' ⟨rfl, hb⟩; replace HK := Lib.hid (HK.out.keep hb); clear k0 k1 k2 k3 k4 k5 k6 kf0 kf1 kf2 kf3 kf4 kf5 kf6; replace HS := Lib.hid (SbsAt.kept HS.out hb); replace HF := Lib.hid (FdsAt.kept HF.out hb); replace HB := Lib.hid (bch' HB.out hb); clear hb; obtain ⟨k0, k1, k2, k3, k4, k5, k6, kf0, kf1, kf2, kf3, kf4, kf5, kf6⟩ := HK.out.c7) | (with_reducible refine ((HC.out _ HS.out HF.out).mono ?_); rintro e w' ⟨rfl, hb⟩; replace HK := Lib.hid (HK.out.keep hb); clear k0 k1 k2 k3 k4 k5 k6 kf0 kf1 kf2 kf3 kf4 kf5 kf6; replace HS := Lib.hid (SbsAt.kept HS.out hb); replace HF := Lib.hid (FdsAt.kept HF.out hb); replace HB := Lib.hid (bch' HB.out hb); clear hb; obtain ⟨k0, k1, k2, k3, k4, k5, k6, kf0, kf1, kf2, kf3, kf4, kf5, kf6⟩ := HK.out.c7))
        go_ret
        exact ⟨_, rfl, fun h => absurd h (by decide), HB.out⟩
    · have hne : ((maE fr tz st ti su fd : Int) == 0) = false := by simpa using hz
      clear hz
      generalize maE fr tz st ti su fd = m at *
      have HC := Lib.hid hc; clear hc
      go_wp2_with (first | (with_reducible refine ((HOW.out _).mono ?_); rintro e w' ⟨rfl, hb⟩; replace HK := Lib.hid (HK.out.keep hb); clear k0 k1 k2 k3 k4 k5 k6 kf0 kf1 kf2 kf3 kf4 kf5 kf6; replace HS := Lib.hid (SbsAt.kept HS.out hb); replace HF := Lib.hid (FdsAt.kept HF.out hb); replace HB := Lib.hid (bch' HB.out hb); clear hb; obtain ⟨k0, k1, k2, k3, k4, k5, k6, kf0, kf1, kf2, kf3, kf4, kf5, kf6⟩ := HK.out.c7) | (with_reducible refine ((HC.out _ HS.out HF.out).mono ?_); rintro e w' ⟨rfl, hb⟩; replace HK := Lib.hid (HK.out.keep hb); clear k0 k1 k2 k3 k4 k5 k6 kf0 kf1 kf2 kf3 kf4 kf5 kf6; replace HS := Lib.hid (SbsAt.kept HS.out hb); replace HF := Lib.hid (FdsAt.kept HF.out hb); replace HB := Lib.hid (bch' HB.out hb); clear hb; obtain ⟨k0, k1, k2, k3, k4, k5, k6, kf0, kf1, kf2, kf3, kf4, kf5, kf6⟩ := HK.out.c7))
      go_ret
      exact ⟨_, rfl, fun h => absurd h (by decide), HB.out⟩

set_option maxRecDepth 100000 in
set_option maxHeartbeats 8000000 in
theorem law_bounds (fr : Txt) (tz st ti : Int) (bl : Bool) (sv fv : Value) (su : List Sb) (fd : List Fdr) (ch : Int) (t : Int) (w : World) (hl0 : fr.length ≤ 9223372036854775807) (hs : SbsAt w sv su) (hf : FdsAt w fv fd) (ch0 : -9223372036854775808 ≤ ch) (ch1 : ch ≤ 9223372036854775807) (t0 : -9223372036854775808 ≤ t) (t1 : t ≤ 9223372036854775807) (env : Env w) :
    Calls Tryz.prog 5 #[.agg #[.string ⟨(fr).toArray⟩, .int .i64 tz, .int .i64 st, .int .i64 ti, .bool (bl), sv, fv], .int .i64 ch, .int .i64 t] w fun e w' => e = .returned (.bool (true)) ∧ Below w.heap.size w w' := by
  obtain ⟨ps, zs, rfl⟩ : ∃ ps zs, sv = .slice ps su.length zs := by obtain ⟨a, b, e, -⟩ := hs; exact ⟨a, b, e⟩
  obtain ⟨pf, zf, rfl⟩ : ∃ pf zf, fv = .slice pf fd.length zf := by obtain ⟨a, b, e, -⟩ := hf; exact ⟨a, b, e⟩
  have ENV := Lib.hid env; clear env
  have HS0 := Lib.hid hs
  have HF0 := Lib.hid hf
  have hal := (Below.refl w.heap.size w).alloc (Nat.le_refl _) (.cells #[.string ⟨(fr).toArray⟩, .int .i64 tz, .int .i64 st, .int .i64 ti, .bool (bl), (.slice ps su.length zs), (.slice pf fd.length zf)] 28)
  have HS := Lib.hid (SbsAt.kept hs hal)
  have HF := Lib.hid (FdsAt.kept hf hal)
  have HB := Lib.hid hal
  clear hal hs hf
  have HK := Lib.hid (Blk.new w 28 #[.string ⟨(fr).toArray⟩, .int .i64 tz, .int .i64 st, .int .i64 ti, .bool (bl), (.slice ps su.length zs), (.slice pf fd.length zf)])
  obtain ⟨k0, k1, k2, k3, k4, k5, k6, kf0, kf1, kf2, kf3, kf4, kf5, kf6⟩ := HK.out.c7
  have haw := fun W (e : Env W) => l30_awake W e
  have hri := fun W (h1 : SbsAt W (.slice ps su.length zs) su) (h2 : FdsAt W (.slice pf fd.length zf) fd) => l30_right tz st ti bl fr (.slice ps su.length zs) (.slice pf fd.length zf) su fd ch W h1 h2
  have HAW := Lib.hid haw; clear haw
  have HRI := Lib.hid hri; clear hri
  go_enter Tryz.func5, Tryz.ntmps5
  go_wp2_with fail
  refine ((HRI.out _ HS.out HF.out).mono ?_)
  rintro e w2 ⟨b1, rfl, hq, hb⟩
  replace HK := Lib.hid (HK.out.keep hb); clear k0 k1 k2 k3 k4 k5 k6 kf0 kf1 kf2 kf3 kf4 kf5 kf6; replace HS := Lib.hid (SbsAt.kept HS.out hb); replace HF := Lib.hid (FdsAt.kept HF.out hb); replace HB := Lib.hid (bch' HB.out hb); clear hb; obtain ⟨k0, k1, k2, k3, k4, k5, k6, kf0, kf1, kf2, kf3, kf4, kf5, kf6⟩ := HK.out.c7
  cases b1
  · go_wp2_with (first | (with_reducible refine ((HAW.out _ (ENV.out.below HB.out)).mono ?_); rintro e w' ⟨rfl, hb⟩; replace HK := Lib.hid (HK.out.keep hb); clear k0 k1 k2 k3 k4 k5 k6 kf0 kf1 kf2 kf3 kf4 kf5 kf6; replace HS := Lib.hid (SbsAt.kept HS.out hb); replace HF := Lib.hid (FdsAt.kept HF.out hb); replace HB := Lib.hid (bch' HB.out hb); clear hb; obtain ⟨k0, k1, k2, k3, k4, k5, k6, kf0, kf1, kf2, kf3, kf4, kf5, kf6⟩ := HK.out.c7))
    go_ret
    exact ⟨rfl, HB.out⟩
  · obtain ⟨hz, hx, hl⟩ := hq rfl
    clear hq
    obtain ⟨hm, hc0, hc1⟩ := onE_zero hz
    obtain ⟨m1, m2, m3⟩ := maE_zero hm
    have tok := tabOk m2
    have fok := facOk m3
    have h16 := tok.few
    have ff : Fits 3600 (facQ (mainQ fr tz st ti bl t) su fd ch t su.length) := (facQ_fits ch t (mainQ_fits bl t m1 hx) tok fok hl su.length (Nat.le_refl _)).mono (by omega)
    obtain ⟨f0, f1⟩ := facQ_01 ch t (mainQ_01 bl t m1).1 (mainQ_01 bl t m1).2 (fun j hj => subOk (tok.ok j hj)) fok su.length (Nat.le_refl _)
    have hfa := fun W (h1 : SbsAt W (.slice ps su.length zs) su) (h2 : FdsAt W (.slice pf fd.length zf) fd) (e : Env W) => own_mfactor_ok tz st ti bl fr (.slice ps su.length zs) (.slice pf fd.length zf) su fd ch t W h1 h2 hx hl hz e
    have hfb := fun W (h1 : SbsAt W (.slice ps su.length zs) su) (h2 : FdsAt W (.slice pf fd.length zf) fd) (e : Env W) => own_mfactor_ok tz st ti true fr (.slice ps su.length zs) (.slice pf fd.length zf) su fd ch t W h1 h2 hx hl hz e
    rw [show mainQ fr tz st ti true t = 0 from rfl, facQ_black su fd ch t _ (Nat.le_refl _), showR_zero] at hfb
    have hwi := fun W => l30_within (facQ (mainQ fr tz st ti bl t) su fd ch t su.length) W ff f0 f1
    have fx0 : Fits 6 (0 : Rat) := fits_0.mono (by omega)
    obtain ⟨ap0, ck0, s0a, s0b⟩ := bnd_one fx0 ff f0 f1 (by decide +kernel) (by decide +kernel)
    have ha0 := fun W (e : Env W) => own_mapply 0 (showR (0 : Rat)) (showR (facQ (mainQ fr tz st ti bl t) su fd ch t su.length)) 6 3600 W (len_ok fx0 (by omega)) (len_ok ff (by omega)) (fun q h => by have h2 := congrArg valR h; rw [valR_showR, valR_showR] at h2; rw [← h2]; exact fx0) (fun q h => by have h2 := congrArg valR h; rw [valR_showR, valR_showR] at h2; rw [← h2]; exact ff) (by omega) e
    rw [ap0] at ha0
    dsimp only at ha0
    have hk0 := fun W => r2_check (showR ((0 : Rat) * (facQ (mainQ fr tz st ti bl t) su fd ch t su.length))) W (len_ok (fits_mul2 fx0 ff) (by omega))
    rw [ck0] at hk0
    have hu0 := fun W => r2_order ((0 : Rat) * (facQ (mainQ fr tz st ti bl t) su fd ch t su.length)) (0 : Rat) W ((fits_mul2 fx0 ff).mono (by omega)) (fx0.mono (by omega))
    have hv0 := fun W => r2_order ((0 : Rat) * (facQ (mainQ fr tz st ti bl t) su fd ch t su.length)) 0 W ((fits_mul2 fx0 ff).mono (by omega)) (fits_0.mono (by omega))
    rw [showR_zero] at hv0
    generalize hz0a : sgn (0 * (facQ (mainQ fr tz st ti bl t) su fd ch t su.length)) 0 = z0a at *
    generalize showR ((0 : Rat) * (facQ (mainQ fr tz st ti bl t) su fd ch t su.length)) = tw0 at *
    rw [showR_zero] at ha0
    try rw [showR_zero] at hu0
    clear hz0a
    clear fx0 ap0 ck0
    have fx1 : Fits 6 (1 / 3 : Rat) := (by unfold Fits; decide +kernel)
    obtain ⟨ap1, ck1, s1a, s1b⟩ := bnd_one fx1 ff f0 f1 (by decide +kernel) (by decide +kernel)
    have ha1 := fun W (e : Env W) => own_mapply 0 (showR (1 / 3 : Rat)) (showR (facQ (mainQ fr tz st ti bl t) su fd ch t su.length)) 6 3600 W (len_ok fx1 (by omega)) (len_ok ff (by omega)) (fun q h => by have h2 := congrArg valR h; rw [valR_showR, valR_showR] at h2; rw [← h2]; exact fx1) (fun q h => by have h2 := congrArg valR h; rw [valR_showR, valR_showR] at h2; rw [← h2]; exact ff) (by omega) e
    rw [ap1] at ha1
    dsimp only at ha1
    have hk1 := fun W => r2_check (showR ((1 / 3 : Rat) * (facQ (mainQ fr tz st ti bl t) su fd ch t su.length))) W (len_ok (fits_mul2 fx1 ff) (by omega))
    rw [ck1] at hk1
    have hu1 := fun W => r2_order ((1 / 3 : Rat) * (facQ (mainQ fr tz st ti bl t) su fd ch t su.length)) (1 / 3 : Rat) W ((fits_mul2 fx1 ff).mono (by omega)) (fx1.mono (by omega))
    have hv1 := fun W => r2_order ((1 / 3 : Rat) * (facQ (mainQ fr tz st ti bl t) su fd ch t su.length)) 0 W ((fits_mul2 fx1 ff).mono (by omega)) (fits_0.mono (by omega))
    rw [showR_zero] at hv1
    generalize sgn ((1 / 3 : Rat) * (facQ (mainQ fr tz st ti bl t) su fd ch t su.length)) (1 / 3 : Rat) = z1a at *
    generalize sgn ((1 / 3 : Rat) * (facQ (mainQ fr tz st ti bl t) su fd ch t su.length)) 0 = z1b at *
    generalize showR ((1 / 3 : Rat) * (facQ (mainQ fr tz st ti bl t) su fd ch t su.length)) = tw1 at *
    rw [(show showR (1 / 3) = [49, 47, 51] by decide +kernel)] at ha1 hu1
    clear fx1 ap1 ck1
    have fx2 : Fits 6 (500 : Rat) := (by unfold Fits; decide +kernel)
    obtain ⟨ap2, ck2, s2a, s2b⟩ := bnd_one fx2 ff f0 f1 (by decide +kernel) (by decide +kernel)
    have ha2 := fun W (e : Env W) => own_mapply 0 (showR (500 : Rat)) (showR (facQ (mainQ fr tz st ti bl t) su fd ch t su.length)) 6 3600 W (len_ok fx2 (by omega)) (len_ok ff (by omega)) (fun q h => by have h2 := congrArg valR h; rw [valR_showR, valR_showR] at h2; rw [← h2]; exact fx2) (fun q h => by have h2 := congrArg valR h; rw [valR_showR, valR_showR] at h2; rw [← h2]; exact ff) (by omega) e
    rw [ap2] at ha2
    dsimp only at ha2
    have hk2 := fun W => r2_check (showR ((500 : Rat) * (facQ (mainQ fr tz st ti bl t) su fd ch t su.length))) W (len_ok (fits_mul2 fx2 ff) (by omega))
    rw [ck2] at hk2
    have hu2 := fun W => r2_order ((500 : Rat) * (facQ (mainQ fr tz st ti bl t) su fd ch t su.length)) (500 : Rat) W ((fits_mul2 fx2 ff).mono (by omega)) (fx2.mono (by omega))
    have hv2 := fun W => r2_order ((500 : Rat) * (facQ (mainQ fr tz st ti bl t) su fd ch t su.length)) 0 W ((fits_mul2 fx2 ff).mono (by omega)) (fits_0.mono (by omega))
    rw [showR_zero] at hv2
    generalize sgn ((500 : Rat) * (facQ (mainQ fr tz st ti bl t) su fd ch t su.length)) (500 : Rat) = z2a at *
    generalize sgn ((500 : Rat) * (facQ (mainQ fr tz st ti bl t) su fd ch t su.length)) 0 = z2b at *
    generalize showR ((500 : Rat) * (facQ (mainQ fr tz st ti bl t) su fd ch t su.length)) = tw2 at *
    rw [(show showR 500 = [53, 48, 48] by decide +kernel)] at ha2 hu2
    clear fx2 ap2 ck2
    have fx3 : Fits 6 ((65535 : Int) : Rat) := f65.mono (by omega)
    obtain ⟨ap3, ck3, s3a, s3b⟩ := bnd_one fx3 ff f0 f1 (by decide +kernel) (by decide +kernel)
    have ha3 := fun W (e : Env W) => own_mapply 0 (showR ((65535 : Int) : Rat)) (showR (facQ (mainQ fr tz st ti bl t) su fd ch t su.length)) 6 3600 W (len_ok fx3 (by omega)) (len_ok ff (by omega)) (fun q h => by have h2 := congrArg valR h; rw [valR_showR, valR_showR] at h2; rw [← h2]; exact fx3) (fun q h => by have h2 := congrArg valR h; rw [valR_showR, valR_showR] at h2; rw [← h2]; exact ff) (by omega) e
    rw [ap3] at ha3
    dsimp only at ha3
    have hk3 := fun W => r2_check (showR (((65535 : Int) : Rat) * (facQ (mainQ fr tz st ti bl t) su fd ch t su.length))) W (len_ok (fits_mul2 fx3 ff) (by omega))
    rw [ck3] at hk3
    have hu3 := fun W => r2_order (((65535 : Int) : Rat) * (facQ (mainQ fr tz st ti bl t) su fd ch t su.length)) ((65535 : Int) : Rat) W ((fits_mul2 fx3 ff).mono (by omega)) (fx3.mono (by omega))
    have hv3 := fun W => r2_order (((65535 : Int) : Rat) * (facQ (mainQ fr tz st ti bl t) su fd ch t su.length)) 0 W ((fits_mul2 fx3 ff).mono (by omega)) (fits_0.mono (by omega))
    rw [showR_zero] at hv3
    generalize sgn (((65535 : Int) : Rat) * (facQ (mainQ fr tz st ti bl t) su fd ch t su.length)) ((65535 : Int) : Rat) = z3a at *
    generalize sgn (((65535 : Int) : Rat) * (facQ (mainQ fr tz st ti bl t) su fd ch t su.length)) 0 = z3b at *
    generalize showR (((65535 : Int) : Rat) * (facQ (mainQ fr tz st ti bl t) su fd ch t su.length)) = tw3 at *
    rw [k65] at ha3 hu3
    clear fx3 ap3 ck3
    clear ff f0 f1 hm m1 m2 m3 hc0 hc1
    generalize showR (facQ (mainQ fr tz st ti bl t) su fd ch t su.length) = tf at *
    have HFA := Lib.hid hfa; clear hfa
    have HFB := Lib.hid hfb; clear hfb
    have HWI := Lib.hid hwi; clear hwi
    have HA0 := Lib.hid ha0; clear ha0
    have HK0 := Lib.hid hk0; clear hk0
    have HU0 := Lib.hid hu0; clear hu0
    have HV0 := Lib.hid hv0; clear hv0
    have HA1 := Lib.hid ha1; clear ha1
    have HK1 := Lib.hid hk1; clear hk1
    have HU1 := Lib.hid hu1; clear hu1
    have HV1 := Lib.hid hv1; clear hv1
    have HA2 := Lib.hid ha2; clear ha2
    have HK2 := Lib.hid hk2; clear hk2
    have HU2 := Lib.hid hu2; clear hu2
    have HV2 := Lib.hid hv2; clear hv2
    have HA3 := Lib.hid ha3; clear ha3
    have HK3 := Lib.hid hk3; clear hk3
    have HU3 := Lib.hid hu3; clear hu3
    have HV3 := Lib.hid hv3; clear hv3
    go_upto_region 4 with (first | (with_reducible refine ((HFA.out _ HS.out HF.out (ENV.out.below HB.out)).mono ?_); rintro e w' ⟨rfl, hb⟩; replace HK := Lib.hid (HK.out.keep hb); clear k0 k1 k2 k3 k4 k5 k6 kf0 kf1 kf2 kf3 kf4 kf5 kf6; replace HS := Lib.hid (SbsAt.kept HS.out hb); replace HF := Lib.hid (FdsAt.kept HF.out hb); replace HB := Lib.hid (bch' HB.out hb); clear hb; obtain ⟨k0, k1, k2, k3, k4, k5, k6, kf0, kf1, kf2, kf3, kf4, kf5, kf6⟩ := HK.out.c7))
    have HK2 := Lib.hid (HK.out.set_ 4 (.bool true))
    have HBn := Lib.hid (HB.out.setCell (p := ⟨w.heap.size, 4, none⟩) (Nat.le_refl _) (.bool true))
    go_upto_region 5 with fail
    generalize (w'.setCell ⟨w.heap.size, 4, none⟩ (.bool true)) = w5 at *
    clear HB HK
    clear k0 k1 k2 k3 k4 k5 k6 kf0 kf1 kf2 kf3 kf4 kf5 kf6
    have HB := HBn; clear HBn
    have HS := Lib.hid (SbsAt.kept HS0.out HB.out)
    have HF := Lib.hid (FdsAt.kept HF0.out HB.out)
    have HK : Hid (Blk w5 w.heap.size 28 #[.string ⟨(fr).toArray⟩, .int .i64 tz, .int .i64 st, .int .i64 ti, .bool true, (.slice ps su.length zs), (.slice pf fd.length zf)]) := HK2
    clear HK2
    obtain ⟨k0, k1, k2, k3, k4, k5, k6, kf0, kf1, kf2, kf3, kf4, kf5, kf6⟩ := HK.out.c7
    go_upto_region 8 with (first | (with_reducible refine ((HFB.out _ HS.out HF.out (ENV.out.below HB.out)).mono ?_); rintro e w' ⟨rfl, hb⟩; replace HK := Lib.hid (HK.out.keep hb); clear k0 k1 k2 k3 k4 k5 k6 kf0 kf1 kf2 kf3 kf4 kf5 kf6; replace HS := Lib.hid (SbsAt.kept HS.out hb); replace HF := Lib.hid (FdsAt.kept HF.out hb); replace HB := Lib.hid (bch' HB.out hb); clear hb; obtain ⟨k0, k1, k2, k3, k4, k5, k6, kf0, kf1, kf2, kf3, kf4, kf5, kf6⟩ := HK.out.c7) | (with_reducible refine ((HWI.out _).mono ?_); rintro e w' ⟨rfl, hb⟩; replace HK := Lib.hid (HK.out.keep hb); clear k0 k1 k2 k3 k4 k5 k6 kf0 kf1 kf2 kf3 kf4 kf5 kf6; replace HS := Lib.hid (SbsAt.kept HS.out hb); replace HF := Lib.hid (FdsAt.kept HF.out hb); replace HB := Lib.hid (bch' HB.out hb); clear hb; obtain ⟨k0, k1, k2, k3, k4, k5, k6, kf0, kf1, kf2, kf3, kf4, kf5, kf6⟩ := HK.out.c7))
    have hal := (Below.refl w'.heap.size w').alloc (Nat.le_refl _) (.cells #[.string ⟨#[48]⟩, .string ⟨#[49, 47, 51]⟩, .string ⟨#[53, 48, 48]⟩, .string ⟨#[54, 53, 53, 51, 53]⟩] 22)
    have HL := Lib.hid (Blk.new w' 22 #[.string ⟨#[48]⟩, .string ⟨#[49, 47, 51]⟩, .string ⟨#[53, 48, 48]⟩, .string ⟨#[54, 53, 53, 51, 53]⟩])
    replace HB := Lib.hid (bch' HB.out hal)
    clear hal
    clear k0 k1 k2 k3 k4 k5 k6 kf0 kf1 kf2 kf3 kf4 kf5 kf6
    clear HK HS HF
    obtain ⟨l0, l1, l2, l3, lf0, lf1, lf2, lf3⟩ := HL.out.c4
    skip
    go_wp2_with fail
    refine wp_loop_rounds 5 ?_
    repeat (rw [rounds_succ]; go_wp2_with (first | (with_reducible refine ((HAW.out _ (ENV.out.below HB.out)).mono ?_); rintro e w' ⟨rfl, hb⟩; replace HL := Lib.hid (HL.out.keep hb); clear l0 l1 l2 l3 lf0 lf1 lf2 lf3; replace HB := Lib.hid (bch' HB.out hb); clear hb; obtain ⟨l0, l1, l2, l3, lf0, lf1, lf2, lf3⟩ := HL.out.c4) | (with_reducible refine ((HA0.out _ (ENV.out.below HB.out)).mono ?_); rintro e w' ⟨rfl, hb⟩; replace HL := Lib.hid (HL.out.keep hb); clear l0 l1 l2 l3 lf0 lf1 lf2 lf3; replace HB := Lib.hid (bch' HB.out hb); clear hb; obtain ⟨l0, l1, l2, l3, lf0, lf1, lf2, lf3⟩ := HL.out.c4) | (with_reducible refine ((HK0.out _).mono ?_); rintro e w' ⟨rfl, hb⟩; replace HL := Lib.hid (HL.out.keep hb); clear l0 l1 l2 l3 lf0 lf1 lf2 lf3; replace HB := Lib.hid (bch' HB.out hb); clear hb; obtain ⟨l0, l1, l2, l3, lf0, lf1, lf2, lf3⟩ := HL.out.c4) | (with_reducible refine ((HU0.out _).mono ?_); rintro e w' ⟨rfl, hb⟩; replace HL := Lib.hid (HL.out.keep hb); clear l0 l1 l2 l3 lf0 lf1 lf2 lf3; replace HB := Lib.hid (bch' HB.out hb); clear hb; obtain ⟨l0, l1, l2, l3, lf0, lf1, lf2, lf3⟩ := HL.out.c4) | (with_reducible refine ((HV0.out _).mono ?_); rintro e w' ⟨rfl, hb⟩; replace HL := Lib.hid (HL.out.keep hb); clear l0 l1 l2 l3 lf0 lf1 lf2 lf3; replace HB := Lib.hid (bch' HB.out hb); clear hb; obtain ⟨l0, l1, l2, l3, lf0, lf1, lf2, lf3⟩ := HL.out.c4) | (with_reducible refine ((HA1.out _ (ENV.out.below HB.out)).mono ?_); rintro e w' ⟨rfl, hb⟩; replace HL := Lib.hid (HL.out.keep hb); clear l0 l1 l2 l3 lf0 lf1 lf2 lf3; replace HB := Lib.hid (bch' HB.out hb); clear hb; obtain ⟨l0, l1, l2, l3, lf0, lf1, lf2, lf3⟩ := HL.out.c4) | (with_reducible refine ((HK1.out _).mono ?_); rintro e w' ⟨rfl, hb⟩; replace HL := Lib.hid (HL.out.keep hb); clear l0 l1 l2 l3 lf0 lf1 lf2 lf3; replace HB := Lib.hid (bch' HB.out hb); clear hb; obtain ⟨l0, l1, l2, l3, lf0, lf1, lf2, lf3⟩ := HL.out.c4) | (with_reducible refine ((HU1.out _).mono ?_); rintro e w' ⟨rfl, hb⟩; replace HL := Lib.hid (HL.out.keep hb); clear l0 l1 l2 l3 lf0 lf1 lf2 lf3; replace HB := Lib.hid (bch' HB.out hb); clear hb; obtain ⟨l0, l1, l2, l3, lf0, lf1, lf2, lf3⟩ := HL.out.c4) | (with_reducible refine ((HV1.out _).mono ?_); rintro e w' ⟨rfl, hb⟩; replace HL := Lib.hid (HL.out.keep hb); clear l0 l1 l2 l3 lf0 lf1 lf2 lf3; replace HB := Lib.hid (bch' HB.out hb); clear hb; obtain ⟨l0, l1, l2, l3, lf0, lf1, lf2, lf3⟩ := HL.out.c4) | (with_reducible refine ((HA2.out _ (ENV.out.below HB.out)).mono ?_); rintro e w' ⟨rfl, hb⟩; replace HL := Lib.hid (HL.out.keep hb); clear l0 l1 l2 l3 lf0 lf1 lf2 lf3; replace HB := Lib.hid (bch' HB.out hb); clear hb; obtain ⟨l0, l1, l2, l3, lf0, lf1, lf2, lf3⟩ := HL.out.c4) | (with_reducible refine ((HK2.out _).mono ?_); rintro e w' ⟨rfl, hb⟩; replace HL := Lib.hid (HL.out.keep hb); clear l0 l1 l2 l3 lf0 lf1 lf2 lf3; replace HB := Lib.hid (bch' HB.out hb); clear hb; obtain ⟨l0, l1, l2, l3, lf0, lf1, lf2, lf3⟩ := HL.out.c4) | (with_reducible refine ((HU2.out _).mono ?_); rintro e w' ⟨rfl, hb⟩; replace HL := Lib.hid (HL.out.keep hb); clear l0 l1 l2 l3 lf0 lf1 lf2 lf3; replace HB := Lib.hid (bch' HB.out hb); clear hb; obtain ⟨l0, l1, l2, l3, lf0, lf1, lf2, lf3⟩ := HL.out.c4) | (with_reducible refine ((HV2.out _).mono ?_); rintro e w' ⟨rfl, hb⟩; replace HL := Lib.hid (HL.out.keep hb); clear l0 l1 l2 l3 lf0 lf1 lf2 lf3; replace HB := Lib.hid (bch' HB.out hb); clear hb; obtain ⟨l0, l1, l2, l3, lf0, lf1, lf2, lf3⟩ := HL.out.c4) | (with_reducible refine ((HA3.out _ (ENV.out.below HB.out)).mono ?_); rintro e w' ⟨rfl, hb⟩; replace HL := Lib.hid (HL.out.keep hb); clear l0 l1 l2 l3 lf0 lf1 lf2 lf3; replace HB := Lib.hid (bch' HB.out hb); clear hb; obtain ⟨l0, l1, l2, l3, lf0, lf1, lf2, lf3⟩ := HL.out.c4) | (with_reducible refine ((HK3.out _).mono ?_); rintro e w' ⟨rfl, hb⟩; replace HL := Lib.hid (HL.out.keep hb); clear l0 l1 l2 l3 lf0 lf1 lf2 lf3; replace HB := Lib.hid (bch' HB.out hb); clear hb; obtain ⟨l0, l1, l2, l3, lf0, lf1, lf2, lf3⟩ := HL.out.c4) | (with_reducible refine ((HU3.out _).mono ?_); rintro e w' ⟨rfl, hb⟩; replace HL := Lib.hid (HL.out.keep hb); clear l0 l1 l2 l3 lf0 lf1 lf2 lf3; replace HB := Lib.hid (bch' HB.out hb); clear hb; obtain ⟨l0, l1, l2, l3, lf0, lf1, lf2, lf3⟩ := HL.out.c4) | (with_reducible refine ((HV3.out _).mono ?_); rintro e w' ⟨rfl, hb⟩; replace HL := Lib.hid (HL.out.keep hb); clear l0 l1 l2 l3 lf0 lf1 lf2 lf3; replace HB := Lib.hid (bch' HB.out hb); clear hb; obtain ⟨l0, l1, l2, l3, lf0, lf1, lf2, lf3⟩ := HL.out.c4)))
    go_ret
    exact ⟨rfl, HB.out⟩
end Go.Proofs.YtjagoloohhjjeaaGreatDoor
