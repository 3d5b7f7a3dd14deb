/-
  Glides: At; the reference.
-/
import Derived.Test.YtjagoloohhjjeaaGreatDoorGl1
import Derived.Test.YtjagoloohhjjeaaGreatDoorQb
set_option linter.unusedVariables false
set_option linter.unusedSimpArgs false
namespace Lum
open Go Go.RowKit Go.Shelf
open Go.Lib (decDigits itoa)
theorem glE_ok {q : Rat} {tz st ti : Int} (hx : (showR q).length ≤ 1000) (q0 : 0 ≤ q) (q1 : q ≤ ((65535 : Int) : Rat)) (h0 : 0 ≤ tz ∧ tz ≤ 65535) (h1 : 0 ≤ st ∧ st ≤ 10000000) (h2 : 0 ≤ ti ∧ ti ≤ 10000000) : glE (showR q) tz st ti = 0 :=
  glE_in (levE_in (check_gen (fits_of_len hx) (by omega)) (fun h => h.elim (fun g => absurd g (Rat.not_lt.2 q0)) (fun g => absurd g (Rat.not_lt.2 q1)))) ⟨h0, h1, h2⟩
theorem glV_before {q : Rat} {tz st ti t : Int} (h : t < st) : glV q tz st ti t = q := by unfold glV; rw [if_pos h]
theorem glV_behind {q : Rat} {tz st ti t : Int} (h1 : ¬ t < st) (h : st + ti ≤ t) : glV q tz st ti t = (tz : Rat) := by unfold glV; rw [if_neg h1, if_pos h]
theorem glV_mid {q : Rat} {tz st ti t : Int} (h1 : ¬ t < st) (h : ¬ st + ti ≤ t) : glV q tz st ti t = q + ((tz : Rat) - q) * Rat.divInt (t - st) ti := by unfold glV; rw [if_neg h1, if_neg h]
theorem glV_start {q : Rat} {tz st ti : Int} (h : ¬ st + ti ≤ st) : glV q tz st ti st = q := by
  rw [glV_mid (by omega) h, Int.sub_self, Rat.zero_divInt, Rat.mul_zero, Rat.add_zero]
end Lum
namespace Go.Proofs.YtjagoloohhjjeaaGreatDoor
open Go.RowKit Go.Shelf Lum
open Go.Lib (decDigits itoa)
attribute [local go_sem] bs_get bs_extract_end bs_extract_from bs_extract bs_append

set_option maxRecDepth 100000 in
set_option maxHeartbeats 4000000 in
theorem own_gat_ok (q : Rat) (tz st ti t : Int) (w : World) (hx : (showR q).length ≤ 1000) (q0 : 0 ≤ q) (q1 : q ≤ ((65535 : Int) : Rat)) (h0 : 0 ≤ tz ∧ tz ≤ 65535) (h1 : 0 ≤ st ∧ st ≤ 10000000) (h2 : 0 ≤ ti ∧ ti ≤ 10000000) (env : Env w) :
    Calls Tryz.prog 88 #[.agg #[.string ⟨(showR q).toArray⟩, .int .i64 tz, .int .i64 st, .int .i64 ti], .int .i64 t] w fun e w' => e = .returned (.tuple #[.string ⟨(showR (glV q tz st ti t)).toArray⟩, .int .i64 0]) ∧ Below w.heap.size w w' := by
  have ENV := Lib.hid env; clear env
  have HK := Lib.hid (Blk.new w 24 #[.string ⟨(showR q).toArray⟩, .int .i64 tz, .int .i64 st, .int .i64 ti])
  have HB := Lib.hid ((Below.refl w.heap.size w).alloc (Nat.le_refl _) (.cells #[.string ⟨(showR q).toArray⟩, .int .i64 tz, .int .i64 st, .int .i64 ti] 24))
  obtain ⟨k0, k1, k2, k3, kf0, kf1, kf2, kf3⟩ := HK.out.c4
  have hc := fun W (e : Env W) => own_gcheck (showR q) tz st ti W hx e
  rw [glE_ok hx q0 q1 h0 h1 h2] at hc
  have fq := fits_of_len hx
  have ft := fits_i64 tz (by omega) (by omega)
  have e1 : IntKind.i64.wrap (st + ti) = st + ti := IntWalk.i64_in _ (by omega)
  by_cases g1 : t < st
  · rw [glV_before g1]
    clear fq ft hx q0 q1
    generalize showR q = tq at *
    have HC := Lib.hid hc; clear hc
    go_enter Tryz.func88, Tryz.ntmps88
    go_wp2_with (first | (with_reducible refine ((HC.out _ (ENV.out.below HB.out)).mono ?_); rintro e w' ⟨rfl, hb⟩; replace HK := Lib.hid (HK.out.keep hb); clear k0 k1 k2 k3 kf0 kf1 kf2 kf3; replace HB := Lib.hid (bch' HB.out hb); clear hb; obtain ⟨k0, k1, k2, k3, kf0, kf1, kf2, kf3⟩ := HK.out.c4))
    go_ret2
    exact ⟨rfl, HB.out⟩
  · by_cases g2 : st + ti ≤ t
    · rw [glV_behind g1 g2, showR_int]
      have hw := fun W (e : Env W) => own_whole tz W (by omega) (by omega) e
      clear fq ft hx q0 q1
      generalize showR q = tq at *
      have HC := Lib.hid hc; clear hc
      have HW := Lib.hid hw; clear hw
      go_enter Tryz.func88, Tryz.ntmps88
      go_wp2_with (first | (with_reducible refine ((HC.out _ (ENV.out.below HB.out)).mono ?_); rintro e w' ⟨rfl, hb⟩; replace HK := Lib.hid (HK.out.keep hb); clear k0 k1 k2 k3 kf0 kf1 kf2 kf3; replace HB := Lib.hid (bch' HB.out hb); clear hb; obtain ⟨k0, k1, k2, k3, kf0, kf1, kf2, kf3⟩ := HK.out.c4) | (with_reducible refine ((HW.out _ (ENV.out.below HB.out)).mono ?_); rintro e w' ⟨rfl, hb⟩; replace HK := Lib.hid (HK.out.keep hb); clear k0 k1 k2 k3 kf0 kf1 kf2 kf3; replace HB := Lib.hid (bch' HB.out hb); clear hb; obtain ⟨k0, k1, k2, k3, kf0, kf1, kf2, kf3⟩ := HK.out.c4))
      go_ret2
      exact ⟨rfl, HB.out⟩
    · rw [glV_mid g1 g2]
      have hw := fun W (e : Env W) => own_whole tz W (by omega) (by omega) e
      rw [← showR_int] at hw
      have hbt := fun W (e : Env W) => own_gbetween q (tz : Rat) (t - st) ti W fq ft (by omega) (by omega) (by omega) (by omega) e
      have e2 : IntKind.i64.wrap (t - st) = t - st := IntWalk.i64_in _ (by omega)
      clear fq ft hx q0 q1
      generalize showR (q + ((tz : Rat) - q) * Rat.divInt (t - st) ti) = tr at *
      generalize showR (tz : Rat) = tt at *
      generalize showR q = tq at *
      have HC := Lib.hid hc; clear hc
      have HW := Lib.hid hw; clear hw
      have HBT := Lib.hid hbt; clear hbt
      go_enter Tryz.func88, Tryz.ntmps88
      go_wp2_with (first | (with_reducible refine ((HC.out _ (ENV.out.below HB.out)).mono ?_); rintro e w' ⟨rfl, hb⟩; replace HK := Lib.hid (HK.out.keep hb); clear k0 k1 k2 k3 kf0 kf1 kf2 kf3; replace HB := Lib.hid (bch' HB.out hb); clear hb; obtain ⟨k0, k1, k2, k3, kf0, kf1, kf2, kf3⟩ := HK.out.c4))
      have f0 := fun p : BelowOf _ => (HK.out.keep p.h).c4.1
      have f1 := fun p : BelowOf _ => (HK.out.keep p.h).c4.2.1
      have f2 := fun p : BelowOf _ => (HK.out.keep p.h).c4.2.2.1
      have f3 := fun p : BelowOf _ => (HK.out.keep p.h).c4.2.2.2.1
      refine wp_region_quiet_below (by kernel_rfl) (by kernel_rfl) ?_
      repeat (quiet_step (first | rfl | (go_at_call 87; exact calls_below_of _ (HW.out _ (ENV.out.below (bch' HB.out (BelowOf.h _))))) | (go_at_call 126; exact calls_below_of _ (HBT.out _ (ENV.out.below (bch' HB.out (BelowOf.h _)))))))
      refine wpQuiet_nil ?_
      intro _ hw'
      obtain ⟨⟨wq, hbq⟩, hw2⟩ := hw'
      subst hw2
      replace HB := Lib.hid (bch' HB.out hbq)
      clear f0 f1 f2 f3
      go_wp2_with fail
      go_ret2
      exact ⟨rfl, HB.out⟩

set_option maxRecDepth 100000 in
set_option maxHeartbeats 4000000 in
theorem own_gat_bad (fr : Txt) (tz st ti t : Int) (w : World) (hx : fr.length ≤ 1000) (hz : ¬ glE fr tz st ti = 0) (env : Env w) :
    Calls Tryz.prog 88 #[.agg #[.string ⟨fr.toArray⟩, .int .i64 tz, .int .i64 st, .int .i64 ti], .int .i64 t] w fun e w' => e = .returned (.tuple #[.string ⟨([]).toArray⟩, .int .i64 (glE fr tz st ti)]) ∧ Below w.heap.size w w' := by
  have ENV := Lib.hid env; clear env
  have HK := Lib.hid (Blk.new w 24 #[.string ⟨fr.toArray⟩, .int .i64 tz, .int .i64 st, .int .i64 ti])
  have HB := Lib.hid ((Below.refl w.heap.size w).alloc (Nat.le_refl _) (.cells #[.string ⟨fr.toArray⟩, .int .i64 tz, .int .i64 st, .int .i64 ti] 24))
  obtain ⟨k0, k1, k2, k3, kf0, kf1, kf2, kf3⟩ := HK.out.c4
  have hc := fun W (e : Env W) => own_gcheck fr tz st ti W hx e
  have hne : ((glE fr tz st ti : Int) != 0) = true := by simpa using hz
  clear hz
  generalize glE fr tz st ti = m at *
  have HC := Lib.hid hc; clear hc
  go_enter Tryz.func88, Tryz.ntmps88
  go_wp2_with (first | (with_reducible refine ((HC.out _ (ENV.out.below HB.out)).mono ?_); rintro e w' ⟨rfl, hb⟩; replace HK := Lib.hid (HK.out.keep hb); clear k0 k1 k2 k3 kf0 kf1 kf2 kf3; replace HB := Lib.hid (bch' HB.out hb); clear hb; obtain ⟨k0, k1, k2, k3, kf0, kf1, kf2, kf3⟩ := HK.out.c4))
  go_ret2
  exact ⟨rfl, HB.out⟩

theorem r3_time (v : Int) (w : World) :
    Calls Tryz.prog 119 #[.int .i64 v] w fun e w' => e = .returned (.bool (decide (0 ≤ v ∧ v ≤ 10000000))) ∧ w = w' := by
  by_cases h1 : 0 ≤ v
  · by_cases h2 : v ≤ 10000000
    · rw [decide_eq_true (⟨h1, h2⟩ : 0 ≤ v ∧ v ≤ 10000000)]
      go_enter Tryz.func119, Tryz.ntmps119
      go_wp2
      go_ret
      exact ⟨rfl, rfl⟩
    · rw [decide_eq_false (fun h => h2 h.2 : ¬ (0 ≤ v ∧ v ≤ 10000000))]
      go_enter Tryz.func119, Tryz.ntmps119
      go_wp2
      go_ret
      exact ⟨rfl, rfl⟩
  · rw [decide_eq_false (fun h => h1 h.1 : ¬ (0 ≤ v ∧ v ≤ 10000000))]
    go_enter Tryz.func119, Tryz.ntmps119
    go_wp2
    go_ret
    exact ⟨rfl, rfl⟩

theorem r3_whole (v : Int) (w : World) :
    Calls Tryz.prog 118 #[.int .i64 v] w fun e w' => e = .returned (.bool (decide (0 ≤ v ∧ v ≤ 65535))) ∧ w = w' := by
  by_cases h1 : 0 ≤ v
  · by_cases h2 : v ≤ 65535
    · rw [decide_eq_true (⟨h1, h2⟩ : 0 ≤ v ∧ v ≤ 65535)]
      go_enter Tryz.func118, Tryz.ntmps118
      go_wp2
      go_ret
      exact ⟨rfl, rfl⟩
    · rw [decide_eq_false (fun h => h2 h.2 : ¬ (0 ≤ v ∧ v ≤ 65535))]
      go_enter Tryz.func118, Tryz.ntmps118
      go_wp2
      go_ret
      exact ⟨rfl, rfl⟩
  · rw [decide_eq_false (fun h => h1 h.1 : ¬ (0 ≤ v ∧ v ≤ 65535))]
    go_enter Tryz.func118, Tryz.ntmps118
    go_wp2
    go_ret
    exact ⟨rfl, rfl⟩

set_option maxRecDepth 100000 in
set_option maxHeartbeats 4000000 in
theorem r3_level (x : Txt) (w : World) (hx : x.length ≤ 1000) :
    Calls Tryz.prog 117 #[.string ⟨(x).toArray⟩] w fun e w' => e = .returned (.int .i64 (levE x)) ∧ Below w.heap.size w w' := by
  have HB := Lib.hid (Below.refl w.heap.size w)
  have hc := fun W => r2_check x W (by omega)
  have hw := fun W => r2_whole 65535 W (by omega) (by omega)
  rw [show itoa 65535 = [54, 53, 53, 51, 53] by decide +kernel] at hw
  by_cases hz : ratCheck x = 0
  · obtain ⟨q, rfl, -⟩ := ratCheck_zero x hz
    have fq := fits_of_len hx
    have o1 := fun W => r2_order q 0 W (fq.mono (by omega)) (fits_0.mono (by omega))
    rw [showR_zero] at o1
    have o2 := fun W => r2_order q ((65535 : Int) : Rat) W (fq.mono (by omega)) (f65.mono (by omega))
    rw [k65] at o2
    obtain ⟨s1, hs1⟩ : ∃ s, s = sgn q 0 := ⟨_, rfl⟩
    obtain ⟨s2, hs2⟩ : ∃ s, s = sgn q ((65535 : Int) : Rat) := ⟨_, rfl⟩
    rw [← hs1] at o1
    rw [← hs2] at o2
    have HS1 := Lib.hid hs1; have HS2 := Lib.hid hs2; clear hs1 hs2
    rw [hz] at hc
    by_cases h1 : q < 0
    · rw [levE_out hz (.inl h1)]
      have g1 : s1 < 0 := by rw [HS1.out]; exact (sgn_lt _ _).2 h1
      clear h1
      have HC := Lib.hid hc; clear hc
      have HW := Lib.hid hw; clear hw
      have HO1 := Lib.hid o1; clear o1
      have HO2 := Lib.hid o2; clear o2
      clear hz fq
      generalize showR q = tq at *
      go_enter Tryz.func117, Tryz.ntmps117
      go_wp2_with (first | (with_reducible refine ((HC.out _).mono ?_); rintro e w' ⟨rfl, hb⟩; replace HB := Lib.hid (bch' HB.out hb); clear hb) | (with_reducible refine ((HO1.out _).mono ?_); rintro e w' ⟨rfl, hb⟩; replace HB := Lib.hid (bch' HB.out hb); clear hb) | (with_reducible refine ((HW.out _).mono ?_); rintro e w' ⟨rfl, hb⟩; replace HB := Lib.hid (bch' HB.out hb); clear hb) | (with_reducible refine ((HO2.out _).mono ?_); rintro e w' ⟨rfl, hb⟩; replace HB := Lib.hid (bch' HB.out hb); clear hb))
      go_ret
      exact ⟨rfl, HB.out⟩
    have g1 : ¬ s1 < 0 := by rw [HS1.out]; exact mt (sgn_lt _ _).1 h1
    by_cases h2 : ((65535 : Int) : Rat) < q
    · rw [levE_out hz (.inr h2)]
      have g2 : 0 < s2 := by rw [HS2.out]; exact (sgn_gt _ _).2 h2
      clear h1 h2
      have HC := Lib.hid hc; clear hc
      have HW := Lib.hid hw; clear hw
      have HO1 := Lib.hid o1; clear o1
      have HO2 := Lib.hid o2; clear o2
      clear hz fq
      generalize showR q = tq at *
      go_enter Tryz.func117, Tryz.ntmps117
      go_wp2_with (first | (with_reducible refine ((HC.out _).mono ?_); rintro e w' ⟨rfl, hb⟩; replace HB := Lib.hid (bch' HB.out hb); clear hb) | (with_reducible refine ((HO1.out _).mono ?_); rintro e w' ⟨rfl, hb⟩; replace HB := Lib.hid (bch' HB.out hb); clear hb) | (with_reducible refine ((HW.out _).mono ?_); rintro e w' ⟨rfl, hb⟩; replace HB := Lib.hid (bch' HB.out hb); clear hb) | (with_reducible refine ((HO2.out _).mono ?_); rintro e w' ⟨rfl, hb⟩; replace HB := Lib.hid (bch' HB.out hb); clear hb))
      go_ret
      exact ⟨rfl, HB.out⟩
    have g2 : ¬ 0 < s2 := by rw [HS2.out]; exact mt (sgn_gt _ _).1 h2
    rw [levE_in hz (fun h => h.elim h1 h2)]
    clear h1 h2
    have HC := Lib.hid hc; clear hc
    have HW := Lib.hid hw; clear hw
    have HO1 := Lib.hid o1; clear o1
    have HO2 := Lib.hid o2; clear o2
    clear hz fq
    generalize showR q = tq at *
    go_enter Tryz.func117, Tryz.ntmps117
    go_wp2_with (first | (with_reducible refine ((HC.out _).mono ?_); rintro e w' ⟨rfl, hb⟩; replace HB := Lib.hid (bch' HB.out hb); clear hb) | (with_reducible refine ((HO1.out _).mono ?_); rintro e w' ⟨rfl, hb⟩; replace HB := Lib.hid (bch' HB.out hb); clear hb) | (with_reducible refine ((HW.out _).mono ?_); rintro e w' ⟨rfl, hb⟩; replace HB := Lib.hid (bch' HB.out hb); clear hb) | (with_reducible refine ((HO2.out _).mono ?_); rintro e w' ⟨rfl, hb⟩; replace HB := Lib.hid (bch' HB.out hb); clear hb))
    go_ret
    exact ⟨rfl, HB.out⟩
  · rw [levE_bad hz]
    have hne : ((ratCheck x : Int) != 0) = true := by simpa using hz
    clear hz
    generalize ratCheck x = m at *
    have HC := Lib.hid hc; clear hc
    have HW := Lib.hid hw; clear hw
    go_enter Tryz.func117, Tryz.ntmps117
    go_wp2_with (first | (with_reducible refine ((HC.out _).mono ?_); rintro e w' ⟨rfl, hb⟩; replace HB := Lib.hid (bch' HB.out hb); clear hb))
    go_ret
    exact ⟨rfl, HB.out⟩

set_option maxRecDepth 100000 in
set_option maxHeartbeats 4000000 in
theorem r3_check (fr : Txt) (tz st ti : Int) (w : World) (hx : fr.length ≤ 1000) :
    Calls Tryz.prog 73 #[.agg #[.string ⟨fr.toArray⟩, .int .i64 tz, .int .i64 st, .int .i64 ti]] w fun e w' => e = .returned (.int .i64 (glE fr tz st ti)) ∧ Below w.heap.size w w' := by
  have HK := Lib.hid (Blk.new w 24 #[.string ⟨fr.toArray⟩, .int .i64 tz, .int .i64 st, .int .i64 ti])
  have HB := Lib.hid ((Below.refl w.heap.size w).alloc (Nat.le_refl _) (.cells #[.string ⟨fr.toArray⟩, .int .i64 tz, .int .i64 st, .int .i64 ti] 24))
  obtain ⟨k0, k1, k2, k3, kf0, kf1, kf2, kf3⟩ := HK.out.c4
  have hc := fun W => r3_level fr W hx
  have t1 := fun W => r3_whole tz W
  have t2 := fun W => r3_time st W
  have t3 := fun W => r3_time ti W
  by_cases hz : levE fr = 0
  · rw [hz] at hc
    by_cases h1 : 0 ≤ tz ∧ tz ≤ 65535
    · rw [decide_eq_true h1] at t1
      by_cases h2 : 0 ≤ st ∧ st ≤ 10000000
      · rw [decide_eq_true h2] at t2
        by_cases h3 : 0 ≤ ti ∧ ti ≤ 10000000
        · rw [decide_eq_true h3] at t3
          rw [glE_in hz ⟨h1, h2, h3⟩]
          clear h1 h2 h3
          have HC := Lib.hid hc; clear hc
          have T1 := Lib.hid t1; clear t1
          have T2 := Lib.hid t2; clear t2
          have T3 := Lib.hid t3; clear t3
          clear hz
          go_enter Tryz.func73, Tryz.ntmps73
          go_wp2_with (first | (with_reducible refine ((HC.out _).mono ?_); rintro e w' ⟨rfl, hb⟩; replace HK := Lib.hid (HK.out.keep hb); clear k0 k1 k2 k3 kf0 kf1 kf2 kf3; replace HB := Lib.hid (bch' HB.out hb); clear hb; obtain ⟨k0, k1, k2, k3, kf0, kf1, kf2, kf3⟩ := HK.out.c4) | (with_reducible refine ((T1.out _).mono ?_); rintro e w' ⟨rfl, rfl⟩) | (with_reducible refine ((T2.out _).mono ?_); rintro e w' ⟨rfl, rfl⟩) | (with_reducible refine ((T3.out _).mono ?_); rintro e w' ⟨rfl, rfl⟩))
          go_ret
          exact ⟨rfl, HB.out⟩
        · rw [decide_eq_false h3] at t3
          rw [glE_out hz (fun h => h3 h.2.2)]
          clear h1 h2 h3
          have HC := Lib.hid hc; clear hc
          have T1 := Lib.hid t1; clear t1
          have T2 := Lib.hid t2; clear t2
          have T3 := Lib.hid t3; clear t3
          clear hz
          go_enter Tryz.func73, Tryz.ntmps73
          go_wp2_with (first | (with_reducible refine ((HC.out _).mono ?_); rintro e w' ⟨rfl, hb⟩; replace HK := Lib.hid (HK.out.keep hb); clear k0 k1 k2 k3 kf0 kf1 kf2 kf3; replace HB := Lib.hid (bch' HB.out hb); clear hb; obtain ⟨k0, k1, k2, k3, kf0, kf1, kf2, kf3⟩ := HK.out.c4) | (with_reducible refine ((T1.out _).mono ?_); rintro e w' ⟨rfl, rfl⟩) | (with_reducible refine ((T2.out _).mono ?_); rintro e w' ⟨rfl, rfl⟩) | (with_reducible refine ((T3.out _).mono ?_); rintro e w' ⟨rfl, rfl⟩))
          go_ret
          exact ⟨rfl, HB.out⟩
      · rw [decide_eq_false h2] at t2
        rw [glE_out hz (fun h => h2 h.2.1)]
        clear h1 h2
        have HC := Lib.hid hc; clear hc
        have T1 := Lib.hid t1; clear t1
        have T2 := Lib.hid t2; clear t2
        have T3 := Lib.hid t3; clear t3
        clear hz
        go_enter Tryz.func73, Tryz.ntmps73
        go_wp2_with (first | (with_reducible refine ((HC.out _).mono ?_); rintro e w' ⟨rfl, hb⟩; replace HK := Lib.hid (HK.out.keep hb); clear k0 k1 k2 k3 kf0 kf1 kf2 kf3; replace HB := Lib.hid (bch' HB.out hb); clear hb; obtain ⟨k0, k1, k2, k3, kf0, kf1, kf2, kf3⟩ := HK.out.c4) | (with_reducible refine ((T1.out _).mono ?_); rintro e w' ⟨rfl, rfl⟩) | (with_reducible refine ((T2.out _).mono ?_); rintro e w' ⟨rfl, rfl⟩) | (with_reducible refine ((T3.out _).mono ?_); rintro e w' ⟨rfl, rfl⟩))
        go_ret
        exact ⟨rfl, HB.out⟩
    · rw [decide_eq_false h1] at t1
      rw [glE_out hz (fun h => h1 h.1)]
      clear h1
      have HC := Lib.hid hc; clear hc
      have T1 := Lib.hid t1; clear t1
      have T2 := Lib.hid t2; clear t2
      have T3 := Lib.hid t3; clear t3
      clear hz
      go_enter Tryz.func73, Tryz.ntmps73
      go_wp2_with (first | (with_reducible refine ((HC.out _).mono ?_); rintro e w' ⟨rfl, hb⟩; replace HK := Lib.hid (HK.out.keep hb); clear k0 k1 k2 k3 kf0 kf1 kf2 kf3; replace HB := Lib.hid (bch' HB.out hb); clear hb; obtain ⟨k0, k1, k2, k3, kf0, kf1, kf2, kf3⟩ := HK.out.c4) | (with_reducible refine ((T1.out _).mono ?_); rintro e w' ⟨rfl, rfl⟩) | (with_reducible refine ((T2.out _).mono ?_); rintro e w' ⟨rfl, rfl⟩) | (with_reducible refine ((T3.out _).mono ?_); rintro e w' ⟨rfl, rfl⟩))
      go_ret
      exact ⟨rfl, HB.out⟩
  · rw [glE_lev hz]
    have hne : ((levE fr : Int) != 0) = true := by simpa using hz
    clear hz
    generalize levE fr = m at *
    have HC := Lib.hid hc; clear hc
    have T1 := Lib.hid t1; clear t1
    have T2 := Lib.hid t2; clear t2
    have T3 := Lib.hid t3; clear t3
    go_enter Tryz.func73, Tryz.ntmps73
    go_wp2_with (first | (with_reducible refine ((HC.out _).mono ?_); rintro e w' ⟨rfl, hb⟩; replace HK := Lib.hid (HK.out.keep hb); clear k0 k1 k2 k3 kf0 kf1 kf2 kf3; replace HB := Lib.hid (bch' HB.out hb); clear hb; obtain ⟨k0, k1, k2, k3, kf0, kf1, kf2, kf3⟩ := HK.out.c4))
    go_ret
    exact ⟨rfl, HB.out⟩

set_option maxRecDepth 100000 in
set_option maxHeartbeats 4000000 in
theorem r3_of (q : Rat) (tz st ti t : Int) (w : World) (hx : (showR q).length ≤ 1000) (h0 : 0 ≤ tz ∧ tz ≤ 65535) (h1 : 0 ≤ st ∧ st ≤ 10000000) (h2 : 0 ≤ ti ∧ ti ≤ 10000000) :
    Calls Tryz.prog 111 #[.agg #[.string ⟨(showR q).toArray⟩, .int .i64 tz, .int .i64 st, .int .i64 ti], .int .i64 t] w fun e w' => e = .returned (.string ⟨(showR (glV q tz st ti t)).toArray⟩) ∧ Below w.heap.size w w' := by
  have HK := Lib.hid (Blk.new w 24 #[.string ⟨(showR q).toArray⟩, .int .i64 tz, .int .i64 st, .int .i64 ti])
  have HB := Lib.hid ((Below.refl w.heap.size w).alloc (Nat.le_refl _) (.cells #[.string ⟨(showR q).toArray⟩, .int .i64 tz, .int .i64 st, .int .i64 ti] 24))
  obtain ⟨k0, k1, k2, k3, kf0, kf1, kf2, kf3⟩ := HK.out.c4
  have fq := fits_of_len hx
  have ft := fits_i64 tz (by omega) (by omega)
  have e1 : IntKind.i64.wrap (st + ti) = st + ti := IntWalk.i64_in _ (by omega)
  by_cases g2 : st + ti ≤ t
  · rw [glV_behind (by omega) g2, showR_int]
    have hw := fun W => r2_whole tz W (by omega) (by omega)
    clear fq ft hx
    generalize showR q = tq at *
    have HW := Lib.hid hw; clear hw
    go_enter Tryz.func111, Tryz.ntmps111
    go_wp2_with (first | (with_reducible refine ((HW.out _).mono ?_); rintro e w' ⟨rfl, hb⟩; replace HK := Lib.hid (HK.out.keep hb); clear k0 k1 k2 k3 kf0 kf1 kf2 kf3; replace HB := Lib.hid (bch' HB.out hb); clear hb; obtain ⟨k0, k1, k2, k3, kf0, kf1, kf2, kf3⟩ := HK.out.c4))
    go_ret
    exact ⟨rfl, HB.out⟩
  · by_cases g1 : t ≤ st
    · have hv : glV q tz st ti t = q := by
        by_cases e : t = st
        · subst e; exact glV_start g2
        · exact glV_before (by omega)
      rw [hv]
      clear fq ft hx hv
      generalize showR q = tq at *
      go_enter Tryz.func111, Tryz.ntmps111
      go_wp2_with fail
      go_ret
      exact ⟨rfl, HB.out⟩
    · rw [glV_mid (by omega) g2]
      have hw := fun W => r2_whole tz W (by omega) (by omega)
      rw [← showR_int] at hw
      have fd := divI_fits (t - st) ti (by omega) (by omega) (by omega) (by omega)
      have hov := fun W => r2_over (t - st) ti W (by omega) (by omega) (by omega) (by omega) (by omega)
      have hmx := fun W => r2_mixed q (tz : Rat) (Rat.divInt (t - st) ti) W (fq.mono (by omega)) (ft.mono (by omega)) (fd.mono (by omega))
      have e2 : IntKind.i64.wrap (t - st) = t - st := IntWalk.i64_in _ (by omega)
      clear fq ft fd hx
      generalize showR (q + ((tz : Rat) - q) * Rat.divInt (t - st) ti) = tr at *
      generalize showR (Rat.divInt (t - st) ti) = td at *
      generalize showR (tz : Rat) = tt at *
      generalize showR q = tq at *
      have HW := Lib.hid hw; clear hw
      have HOV := Lib.hid hov; clear hov
      have HMX := Lib.hid hmx; clear hmx
      go_enter Tryz.func111, Tryz.ntmps111
      go_wp2
      have f0 := fun p : BelowOf _ => (HK.out.keep p.h).c4.1
      have f1 := fun p : BelowOf _ => (HK.out.keep p.h).c4.2.1
      have f2 := fun p : BelowOf _ => (HK.out.keep p.h).c4.2.2.1
      have f3 := fun p : BelowOf _ => (HK.out.keep p.h).c4.2.2.2.1
      refine wp_region_quiet_below (by kernel_rfl) (by kernel_rfl) ?_
      repeat (quiet_step (first | rfl | (go_at_call 101; exact calls_below_of _ (HW.out _)) | (go_at_call 112; exact calls_below_of _ (HOV.out _)) | (go_at_call 151; exact calls_below_of _ (HMX.out _))))
      refine wpQuiet_nil ?_
      intro _ hw'
      obtain ⟨⟨wq, hbq⟩, hw2⟩ := hw'
      subst hw2
      replace HB := Lib.hid (bch' HB.out hbq)
      clear f0 f1 f2 f3
      go_wp2_with fail
      go_ret
      exact ⟨rfl, HB.out⟩

set_option maxRecDepth 100000 in
set_option maxHeartbeats 4000000 in
theorem r3_full (w : World) :
    Calls Tryz.prog 86 #[] w fun e w' => e = .returned (.agg #[.string ⟨#[54, 53, 53, 51, 53]⟩, .int .i64 65535, .int .i64 0, .int .i64 0]) ∧ Below w.heap.size w w' := by
  have HK := Lib.hid (Blk.new w 24 #[.string ⟨#[]⟩, .int .i64 0, .int .i64 0, .int .i64 0])
  have HB := Lib.hid ((Below.refl w.heap.size w).alloc (Nat.le_refl _) (.cells #[.string ⟨#[]⟩, .int .i64 0, .int .i64 0, .int .i64 0] 24))
  obtain ⟨k0, k1, k2, k3, kf0, kf1, kf2, kf3⟩ := HK.out.c4
  have hw0 := fun W => r2_whole 65535 W (by omega) (by omega)
  rw [show itoa 65535 = [54, 53, 53, 51, 53] by decide +kernel] at hw0
  have HW0 := Lib.hid hw0; clear hw0
  go_enter Tryz.func86, Tryz.ntmps86
  go_wp2_with (first | (with_reducible refine ((HW0.out _).mono ?_); rintro e w' ⟨rfl, hb⟩; replace HK := Lib.hid (HK.out.keep hb); clear k0 k1 k2 k3 kf0 kf1 kf2 kf3; replace HB := Lib.hid (bch' HB.out hb); clear hb; obtain ⟨k0, k1, k2, k3, kf0, kf1, kf2, kf3⟩ := HK.out.c4))
  refine bodyPost_ret_by (v := .agg #[.string ⟨#[54, 53, 53, 51, 53]⟩, .int .i64 65535, .int .i64 0, .int .i64 0]) (by simp [results, Tryz.f86, go_sem, k0, k1, k2, k3, kf0, kf1, kf2, kf3]) rfl ⟨rfl, ?_⟩
  first | exact (Below.refl _ _).alloc (Nat.le_refl _) _ | exact (((HB.out.setCell (Nat.le_refl _) _).setCell (Nat.le_refl _) _).setCell (Nat.le_refl _) _).setCell (Nat.le_refl _) _

set_option maxRecDepth 100000 in
set_option maxHeartbeats 4000000 in
theorem r3_zero (w : World) :
    Calls Tryz.prog 187 #[] w fun e w' => e = .returned (.agg #[.string ⟨#[48]⟩, .int .i64 0, .int .i64 0, .int .i64 0]) ∧ Below w.heap.size w w' := by
  have HK := Lib.hid (Blk.new w 24 #[.string ⟨#[]⟩, .int .i64 0, .int .i64 0, .int .i64 0])
  have HB := Lib.hid ((Below.refl w.heap.size w).alloc (Nat.le_refl _) (.cells #[.string ⟨#[]⟩, .int .i64 0, .int .i64 0, .int .i64 0] 24))
  obtain ⟨k0, k1, k2, k3, kf0, kf1, kf2, kf3⟩ := HK.out.c4
  go_enter Tryz.func187, Tryz.ntmps187
  go_wp2
  refine bodyPost_ret_by (v := .agg #[.string ⟨#[48]⟩, .int .i64 0, .int .i64 0, .int .i64 0]) (by simp [results, Tryz.f187, go_sem, k0, k1, k2, k3, kf0, kf1, kf2, kf3]) rfl ⟨rfl, ?_⟩
  first | exact (Below.refl _ _).alloc (Nat.le_refl _) _ | exact (((HB.out.setCell (Nat.le_refl _) _).setCell (Nat.le_refl _) _).setCell (Nat.le_refl _) _).setCell (Nat.le_refl _) _
end Go.Proofs.YtjagoloohhjjeaaGreatDoor
