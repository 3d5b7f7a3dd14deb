/-
  Law 30: right, within; the law MasterBounds.
-/
import Derived.Test.YtkjelfmgnkkijaaGreatDoorMz
set_option linter.unusedVariables false
set_option linter.unusedSimpArgs false
namespace Lum
open Go Go.RowKit Go.Shelf
open Go.Lib (decDigits itoa)
theorem facQ_black (su : List Sb) (fd : List Fdr) (ch t : Int) : ∀ k, k ≤ su.length → facQ 0 su fd ch t k = 0 := by
  intro k
  induction k with
  | zero => intro _; rfl
  | succ k ih => intro h; rw [facQ_succ 0 fd ch t (by omega), ih (by omega), Rat.zero_mul]
/-- What a level behind the masters is. -/
theorem bnd_one {x f : Rat} (fx : Fits 6 x) (ff : Fits 3600 f) (f0 : 0 ≤ f) (f1 : f ≤ 1) (x0 : 0 ≤ x) (x1 : x ≤ ((65535 : Int) : Rat)) :
    apT (showR x) (showR f) 0 = (showR (x * f), 0) ∧ ratCheck (showR (x * f)) = 0 ∧ ¬ 0 < sgn (x * f) x ∧ ¬ sgn (x * f) 0 < 0 := by
  have w1 : wiE (showR x) 65535 = 0 := wiE_in (check_gen fx (by omega)) (fun h => h.elim (fun g => absurd g (Rat.not_lt.2 x0)) (fun g => absurd g (Rat.not_lt.2 x1)))
  have w2 : wiE (showR f) 1 = 0 := wiE_in (check_gen ff (by omega)) (fun h => h.elim (fun g => absurd g (Rat.not_lt.2 f0)) (fun g => absurd g (Rat.not_lt.2 f1)))
  refine ⟨?_, check_gen (fits_mul2 fx ff) (by omega), fun h => ?_, fun h => ?_⟩
  · rw [apT_ok w1 w2 (by omega) rfl, valR_showR, valR_showR]
  · have := (sgn_gt _ _).1 h
    exact absurd this (Rat.not_lt.2 (mul_le_of x0 f1))
  · have := (sgn_lt _ _).1 h
    exact absurd this (Rat.not_lt.2 (Rat.mul_nonneg x0 f0))
end Lum
namespace Go.Proofs.YtkjelfmgnkkijaaGreatDoor
open Go.RowKit Go.Shelf Lum
open Go.Lib (decDigits itoa)
attribute [local go_sem] bs_get bs_extract_end bs_extract_from bs_extract bs_append

set_option maxRecDepth 100000 in
set_option maxHeartbeats 4000000 in
theorem l30_within (q : Rat) (w : World) (fq : Fits 3600 q) (q0 : 0 ≤ q) (q1 : q ≤ 1) :
    Calls Tryz.prog 27 #[.string ⟨(showR q).toArray⟩] w fun e w' => e = .returned (.bool (true)) ∧ Below w.heap.size w w' := by
  have HB := Lib.hid (Below.refl w.heap.size w)
  have hc := fun W => r2_check (showR q) W (len_ok fq (by omega))
  rw [check_gen fq (by omega)] at hc
  have o1 := fun W => r2_order q 0 W (fq.mono (by omega)) (fits_0.mono (by omega))
  rw [showR_zero] at o1
  have o2 := fun W => r2_order q 1 W (fq.mono (by omega)) (fits_1.mono (by omega))
  rw [show showR 1 = [49] by decide +kernel] at o2
  have s1 : (0 : Int) ≤ sgn q 0 := Int.not_lt.1 fun h => absurd ((sgn_lt _ _).1 h) (Rat.not_lt.2 q0)
  have s2 : sgn q 1 ≤ (0 : Int) := Int.not_lt.1 fun h => absurd ((sgn_gt _ _).1 h) (Rat.not_lt.2 q1)
  generalize sgn q 0 = z1 at *
  generalize sgn q 1 = z2 at *
  clear fq q0 q1
  generalize showR q = tq at *
  have HC := Lib.hid hc; clear hc
  have HO1 := Lib.hid o1; clear o1
  have HO2 := Lib.hid o2; clear o2
  go_enter Tryz.func27, Tryz.ntmps27
  go_wp2_with (first | (with_reducible refine ((HC.out _).mono ?_); rintro e w' ⟨rfl, hb⟩; replace HB := Lib.hid (bch' HB.out hb); clear hb) | (with_reducible refine ((HO1.out _).mono ?_); rintro e w' ⟨rfl, hb⟩; replace HB := Lib.hid (bch' HB.out hb); clear hb) | (with_reducible refine ((HO2.out _).mono ?_); rintro e w' ⟨rfl, hb⟩; replace HB := Lib.hid (bch' HB.out hb); clear hb))
  go_ret
  exact ⟨rfl, HB.out⟩

set_option maxRecDepth 100000 in
set_option maxHeartbeats 4000000 in
theorem l30_right (tz st ti : Int) (bl : Bool) (fr : Txt) (sv fv : Value) (su : List Sb) (fd : List Fdr) (ch : Int) (w : World) (hs : SbsAt w sv su) (hf : FdsAt w fv fd) :
    Calls Tryz.prog 24 #[.agg #[.string ⟨(fr).toArray⟩, .int .i64 tz, .int .i64 st, .int .i64 ti, .bool (bl), sv, fv], .int .i64 ch] w fun e w' => FewB (onE fr tz st ti su fd ch = 0 ∧ fr.length ≤ 60 ∧ ∀ i, i < fd.length → (fdv fd i).fr.length ≤ 60) w e w' := by
  obtain ⟨ps, zs, rfl⟩ : ∃ ps zs, sv = .slice ps su.length zs := by obtain ⟨a, b, e, -⟩ := hs; exact ⟨a, b, e⟩
  obtain ⟨pf, zf, rfl⟩ : ∃ pf zf, fv = .slice pf fd.length zf := by obtain ⟨a, b, e, -⟩ := hf; exact ⟨a, b, e⟩
  have hal := (Below.refl w.heap.size w).alloc (Nat.le_refl _) (.cells #[.string ⟨(fr).toArray⟩, .int .i64 tz, .int .i64 st, .int .i64 ti, .bool (bl), (.slice ps su.length zs), (.slice pf fd.length zf)] 28)
  have HS := Lib.hid (SbsAt.kept hs hal)
  have HF := Lib.hid (FdsAt.kept hf hal)
  have HB := Lib.hid hal
  clear hal hs hf
  have HK := Lib.hid (Blk.new w 28 #[.string ⟨(fr).toArray⟩, .int .i64 tz, .int .i64 st, .int .i64 ti, .bool (bl), (.slice ps su.length zs), (.slice pf fd.length zf)])
  obtain ⟨k0, k1, k2, k3, k4, k5, k6, kf0, kf1, kf2, kf3, kf4, kf5, kf6⟩ := HK.out.c7
  have how := fun W => l30_own tz st ti bl fr ps pf su.length zs fd.length zf W
  have hfe := fun W (h1 : SbsAt W (.slice ps su.length zs) su) (h2 : FdsAt W (.slice pf fd.length zf) fd) => r30_few tz st ti bl fr (.slice ps su.length zs) (.slice pf fd.length zf) su fd W h1 h2
  have HOW := Lib.hid how; clear how
  have HFE := Lib.hid hfe; clear hfe
  go_enter Tryz.func24, Tryz.ntmps24
  go_wp2_with (first | (with_reducible refine ((HOW.out _).mono ?_); rintro e w' ⟨rfl, hb⟩; replace HK := Lib.hid (HK.out.keep hb); clear k0 k1 k2 k3 k4 k5 k6 kf0 kf1 kf2 kf3 kf4 kf5 kf6; replace HS := Lib.hid (SbsAt.kept HS.out hb); replace HF := Lib.hid (FdsAt.kept HF.out hb); replace HB := Lib.hid (bch' HB.out hb); clear hb; obtain ⟨k0, k1, k2, k3, k4, k5, k6, kf0, kf1, kf2, kf3, kf4, kf5, kf6⟩ := HK.out.c7))
  refine ((HFE.out _ HS.out HF.out).mono ?_)
  rintro e w2 ⟨b1, rfl, hq, hb⟩
  replace HK := Lib.hid (HK.out.keep hb); clear k0 k1 k2 k3 k4 k5 k6 kf0 kf1 kf2 kf3 kf4 kf5 kf6; replace HS := Lib.hid (SbsAt.kept HS.out hb); replace HF := Lib.hid (FdsAt.kept HF.out hb); replace HB := Lib.hid (bch' HB.out hb); clear hb; obtain ⟨k0, k1, k2, k3, k4, k5, k6, kf0, kf1, kf2, kf3, kf4, kf5, kf6⟩ := HK.out.c7
  cases b1
  · go_wp2_with fail
    go_ret
    exact ⟨_, rfl, fun h => absurd h (by decide), HB.out⟩
  · obtain ⟨hx, hl⟩ := hq rfl
    clear hq
    have hc := fun W (h1 : SbsAt W (.slice ps su.length zs) su) (h2 : FdsAt W (.slice pf fd.length zf) fd) => r30_check tz st ti bl fr (.slice ps su.length zs) (.slice pf fd.length zf) su fd W h1 h2 (by omega) (fun i hi => Nat.le_trans (hl i hi) (by omega))
    by_cases hz : maE fr tz st ti su fd = 0
    · rw [hz] at hc
      have HC := Lib.hid hc; clear hc
      by_cases o1 : (1 : Int) ≤ ch
      · by_cases o2 : ch ≤ (999 : Int)
        · go_wp2_with (first | (with_reducible refine ((HOW.out _).mono ?_); rintro e w' ⟨rfl, hb⟩; replace HK := Lib.hid (HK.out.keep hb); clear k0 k1 k2 k3 k4 k5 k6 kf0 kf1 kf2 kf3 kf4 kf5 kf6; replace HS := Lib.hid (SbsAt.kept HS.out hb); replace HF := Lib.hid (FdsAt.kept HF.out hb); replace HB := Lib.hid (bch' HB.out hb); clear hb; obtain ⟨k0, k1, k2, k3, k4, k5, k6, kf0, kf1, kf2, kf3, kf4, kf5, kf6⟩ := HK.out.c7) | (with_reducible refine ((HC.out _ HS.out HF.out).mono ?_); rintro e w' ⟨rfl, hb⟩; replace HK := Lib.hid (HK.out.keep hb); clear k0 k1 k2 k3 k4 k5 k6 kf0 kf1 kf2 kf3 kf4 kf5 kf6; replace HS := Lib.hid (SbsAt.kept HS.out hb); replace HF := Lib.hid (FdsAt.kept HF.out hb); replace HB := Lib.hid (bch' HB.out hb); clear hb; obtain ⟨k0, k1, k2, k3, k4, k5, k6, kf0, kf1, kf2, kf3, kf4, kf5, kf6⟩ := HK.out.c7))
          go_ret
          exact ⟨_, rfl, fun _ => ⟨onE_ok hz (by omega), hx, hl⟩, HB.out⟩
        · go_wp2_with (first | (with_reducible refine ((HOW.out _).mono ?_); rintro e w' ⟨rfl, hb⟩; replace HK := Lib.hid (HK.out.keep hb); clear k0 k1 k2 k3 k4 k5 k6 kf0 kf1 kf2 kf3 kf4 kf5 kf6; replace HS := Lib.hid (SbsAt.kept HS.out hb); replace HF := Lib.hid (FdsAt.kept HF.out hb); replace HB := Lib.hid (bch' HB.out hb); clear hb; obtain ⟨k0, k1, k2, k3, k4, k5, k6, kf0, kf1, kf2, kf3, kf4, kf5, kf6⟩ := HK.out.c7) | (with_reducible refine ((HC.out _ HS.out HF.out).mono ?_); rintro e w' ⟨rfl, hb⟩; replace HK := Lib.hid (HK.out.keep hb); clear k0 k1 k2 k3 k4 k5 k6 kf0 kf1 kf2 kf3 kf4 kf5 kf6; replace HS := Lib.hid (SbsAt.kept HS.out hb); replace HF := Lib.hid (FdsAt.kept HF.out hb); replace HB := Lib.hid (bch' HB.out hb); clear hb; obtain ⟨k0, k1, k2, k3, k4, k5, k6, kf0, kf1, kf2, kf3, kf4, kf5, kf6⟩ := HK.out.c7))
          go_ret
          exact ⟨_, rfl, fun h => absurd (of_decide_eq_true h) (by omega), HB.out⟩
      · go_wp2_with (first | (with_reducible refine ((HOW.out _).mono ?_); rintro e w' ⟨rfl, hb⟩; replace HK := Lib.hid (HK.out.keep hb); clear k0 k1 k2 k3 k4 k5 k6 kf0 kf1 kf2 kf3 kf4 kf5 kf6; replace HS := Lib.hid (SbsAt.kept HS.out hb); replace HF := Lib.hid (FdsAt.kept HF.out hb); replace HB := Lib.hid (bch' HB.out hb); clear hb; obtain ⟨k0, k1, k2, k3, k4, k5, k6, kf0, kf1, kf2, kf3, kf4, kf5, kf6⟩ := HK.out.c7) | (with_reducible refine ((HC.out _ HS.out HF.out).mono ?_); rintro e w' ⟨rfl, hb⟩; replace HK := Lib.hid (HK.out.keep hb); clear k0 k1 k2 k3 k4 k5 k6 kf0 kf1 kf2 kf3 kf4 kf5 kf6; replace HS := Lib.hid (SbsAt.kept HS.out hb); replace HF := Lib.hid (FdsAt.kept HF.out hb); replace HB := Lib.hid (bch' HB.out hb); clear hb; obtain ⟨k0, k1, k2, k3, k4, k5, k6, kf0, kf1, kf2, kf3, kf4, kf5, kf6⟩ := HK.out.c7))
        go_ret
        exact ⟨_, rfl, fun h => absurd h (by decide), HB.out⟩
    · have hne : ((maE fr tz st ti su fd : Int) == 0) = false := by simpa using hz
      clear hz
      generalize maE fr tz st ti su fd = m at *
      have HC := Lib.hid hc; clear hc
      go_wp2_with (first | (with_reducible refine ((HOW.out _).mono ?_); rintro e w' ⟨rfl, hb⟩; replace HK := Lib.hid (HK.out.keep hb); clear k0 k1 k2 k3 k4 k5 k6 kf0 kf1 kf2 kf3 kf4 kf5 kf6; replace HS := Lib.hid (SbsAt.kept HS.out hb); replace HF := Lib.hid (FdsAt.kept HF.out hb); replace HB := Lib.hid (bch' HB.out hb); clear hb; obtain ⟨k0, k1, k2, k3, k4, k5, k6, kf0, kf1, kf2, kf3, kf4, kf5, kf6⟩ := HK.out.c7) | (with_reducible refine ((HC.out _ HS.out HF.out).mono ?_); rintro e w' ⟨rfl, hb⟩; replace HK := Lib.hid (HK.out.keep hb); clear k0 k1 k2 k3 k4 k5 k6 kf0 kf1 kf2 kf3 kf4 kf5 kf6; replace HS := Lib.hid (SbsAt.kept HS.out hb); replace HF := Lib.hid (FdsAt.kept HF.out hb); replace HB := Lib.hid (bch' HB.out hb); clear hb; obtain ⟨k0, k1, k2, k3, k4, k5, k6, kf0, kf1, kf2, kf3, kf4, kf5, kf6⟩ := HK.out.c7))
      go_ret
      exact ⟨_, rfl, fun h => absurd h (by decide), HB.out⟩

end Go.Proofs.YtkjelfmgnkkijaaGreatDoor
