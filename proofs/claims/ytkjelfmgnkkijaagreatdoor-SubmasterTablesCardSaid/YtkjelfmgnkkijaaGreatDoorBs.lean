/-
  slices.BinarySearchFunc at faders and at gains.
-/
import Derived.Test.YtkjelfmgnkkijaaGreatDoorSp
import Derived.Test.YtkjelfmgnkkijaaGreatDoorQq
import Derived.Deep.LoopGhost
set_option linter.unusedVariables false
set_option linter.unusedSimpArgs false
namespace Go.Proofs.YtkjelfmgnkkijaaGreatDoor
open Go.RowKit Go.Shelf Lum
open Go.Lib (decDigits itoa)
attribute [local go_sem] bs_get bs_extract_end bs_extract_from bs_extract bs_append

set_option maxRecDepth 100000 in
set_option maxHeartbeats 4000000 in
theorem bs_fader (M : FuncId) (l : List Fdr) (v tv : Value) (c : Nat → Int) (w : World) (hv : FdsAt w v l) (hn0 : l.length ≤ 1000000) (hF : ∀ args w, (callFunc M args).run Tryz.prog w = .ok (.enter M args) w)
    (hcm : ∀ i, i < l.length → ∀ W, Calls Tryz.prog M #[.agg #[.int .i64 ((fdv l i).su), .string ⟨((fdv l i).fr).toArray⟩, .int .i64 ((fdv l i).tz), .int .i64 ((fdv l i).st), .int .i64 ((fdv l i).ti), .int .i64 ((fdv l i).stp)], tv] W fun e w' => e = .returned (.int .i64 (c i)) ∧ Below W.heap.size W w') :
    Calls Tryz.prog 146 #[v, tv, .func (.func M) #[] #[]] w fun e w' => ∃ i : Nat, Halved c l.length i ∧ e = .returned (.tuple #[.int .i64 (i : Int), .bool (decide (i < l.length ∧ c i = 0))]) ∧ Below w.heap.size w w' := by
  obtain ⟨p, cp, rfl, -, hv1⟩ := hv
  have hv2 := Lib.hid hv1; clear hv1
  have hcc := Lib.hid hcm; clear hcm
  have HB := Lib.hid (Below.refl w.heap.size w)
  go_enter Tryz.func146, Tryz.ntmps146
  go_wp2_with fail
  go_loopg [9, 10] l.length (fun kx s9 s10 wr => ∃ lo hi : Nat, s9 = .int .i64 (lo : Int) ∧ s10 = .int .i64 (hi : Int) ∧ lo ≤ hi ∧ hi ≤ l.length ∧ hi - lo ≤ kx ∧ Hid (Below w.heap.size w wr) ∧ Hid (0 < lo → c (lo - 1) < 0) ∧ Hid (hi < l.length → 0 ≤ c hi))
  case atStart => exact ⟨0, l.length, rfl, rfl, Nat.zero_le _, Nat.le_refl _, by omega, HB, Lib.hid (fun h => absurd h (Nat.lt_irrefl 0)), Lib.hid (fun h => absurd h (Nat.lt_irrefl _))⟩
  case round =>
    clear HB
    obtain ⟨lo, hi, rfl, rfl, hlh, hin, hg, HB, H1, H2⟩ := hrel
    by_cases hlt : lo < hi
    · have hml : (lo + hi) / 2 < l.length := by omega
      have hbr : ∀ b, b < w.heap.size → b < wr.heap.size := fun b h => by have := HB.out.size; omega
      have hlo : (lo + hi) / 2 * 6 < 9223372036854775807 := by omega
      obtain ⟨b, o, rfl, hb, hC⟩ := hv2.out (fun h => by subst h; simp at hml)
      replace hC : FdsC w b o l := hC
      obtain ⟨x0, x1, x2, x3, x4, x5⟩ := hC.below HB.out hb ((lo + hi) / 2) hml
      clear hC
      have hcm := hcc.out ((lo + hi) / 2) hml
      have HCM := Lib.hid hcm; clear hcm
      by_cases hc : c ((lo + hi) / 2) < 0
      · have K1 : Hid (0 < (lo + hi) / 2 + 1 → c ((lo + hi) / 2 + 1 - 1) < 0) := Lib.hid fun _ => by rw [Nat.add_sub_cancel]; exact hc
        generalize c ((lo + hi) / 2) = cv at *
        go_wp2_with (first | (with_reducible refine ((HCM.out _).mono ?_); rintro e w' ⟨rfl, hb⟩; replace HB := Lib.hid (bch' HB.out hb); clear hb))
        go_roundg (hi - ((lo + hi) / 2 + 1))
        case measure => omega
        case rel => exact ⟨(lo + hi) / 2 + 1, hi, by rw [show ((lo : Int) + (hi : Int)) / 2 + 1 = (((lo + hi) / 2 + 1 : Nat) : Int) by omega], rfl, by omega, hin, Nat.le_refl _, HB, K1, H2⟩
      · have K2 : Hid ((lo + hi) / 2 < l.length → 0 ≤ c ((lo + hi) / 2)) := Lib.hid fun _ => by omega
        generalize hcv : c ((lo + hi) / 2) = cv at hc HCM
        clear hcv
        go_wp2_with (first | (with_reducible refine ((HCM.out _).mono ?_); rintro e w' ⟨rfl, hb⟩; replace HB := Lib.hid (bch' HB.out hb); clear hb))
        go_roundg ((lo + hi) / 2 - lo)
        case measure => omega
        case rel => exact ⟨lo, (lo + hi) / 2, rfl, by rw [show ((lo : Int) + (hi : Int)) / 2 = (((lo + hi) / 2 : Nat) : Int) by omega], by omega, by omega, Nat.le_refl _, HB, H1, K2⟩
    · obtain rfl : hi = lo := by omega
      have HV : Hid (Halved c l.length hi) := Lib.hid ⟨hin, H1.out, H2.out⟩
      by_cases hn : hi < l.length
      · obtain ⟨b, o, rfl, hb, hC⟩ := hv2.out (fun h => by subst h; simp at hn)
        replace hC : FdsC w b o l := hC
        obtain ⟨x0, x1, x2, x3, x4, x5⟩ := hC.below HB.out hb hi hn
        clear hC
        have hcm := hcc.out hi hn
        have HCM := Lib.hid hcm; clear hcm
        have hbr : b < wr.heap.size := by have := HB.out.size; omega
        by_cases hc : c hi = 0
        · have HR : Hid (decide (hi < l.length ∧ c hi = 0) = true) := Lib.hid (decide_eq_true ⟨hn, hc⟩)
          rw [hc] at HCM
          clear hc H1 H2
          go_wp2_with (first | (with_reducible refine ((HCM.out _).mono ?_); rintro e w' ⟨rfl, hb⟩; replace HB := Lib.hid (bch' HB.out hb); clear hb))
          go_ret2
          exact ⟨hi, HV.out, by rw [HR.out]; rfl, HB.out⟩
        · have HR : Hid (decide (hi < l.length ∧ c hi = 0) = false) := Lib.hid (decide_eq_false fun h => hc h.2)
          have hcb : ((c hi : Int) == 0) = false := by simpa using hc
          clear hc H1 H2
          generalize hcv : c hi = cv at hcb HCM
          clear hcv
          go_wp2_with (first | (with_reducible refine ((HCM.out _).mono ?_); rintro e w' ⟨rfl, hb⟩; replace HB := Lib.hid (bch' HB.out hb); clear hb))
          go_ret2
          exact ⟨hi, HV.out, by rw [HR.out]; rfl, HB.out⟩
      · have HR : Hid (decide (hi < l.length ∧ c hi = 0) = false) := Lib.hid (decide_eq_false fun h => hn h.1)
        clear H1 H2
        go_wp2
        go_ret2
        exact ⟨hi, HV.out, by rw [HR.out]; rfl, HB.out⟩

set_option maxRecDepth 100000 in
set_option maxHeartbeats 4000000 in
theorem bs_gain (M : FuncId) (l : List Gn) (v : Value) (ch a : Int) (c : Nat → Int) (w : World) (hv : GnsAt w v l) (hn0 : l.length ≤ 1000000) (hF : ∀ args w, (callFunc M args).run Tryz.prog w = .ok (.enter M args) w)
    (hcm : ∀ i, i < l.length → ∀ W, Calls Tryz.prog M #[.agg #[.int .i64 ((gnv l i).ch), .int .i64 ((gnv l i).at_), .int .i64 ((gnv l i).lev)], .agg #[.int .i64 ch, .int .i64 a]] W fun e w' => e = .returned (.int .i64 (c i)) ∧ Below W.heap.size W w') :
    Calls Tryz.prog 153 #[v, .agg #[.int .i64 ch, .int .i64 a], .func (.func M) #[] #[]] w fun e w' => ∃ i : Nat, Halved c l.length i ∧ e = .returned (.tuple #[.int .i64 (i : Int), .bool (decide (i < l.length ∧ c i = 0))]) ∧ Below w.heap.size w w' := by
  obtain ⟨p, cp, rfl, -, hv1⟩ := hv
  have hv2 := Lib.hid hv1; clear hv1
  have hcc := Lib.hid hcm; clear hcm
  have HP := Lib.hid (Blk.new w 72 #[.int .i64 ch, .int .i64 a])
  have HB := Lib.hid ((Below.refl w.heap.size w).alloc (Nat.le_refl _) (.cells #[.int .i64 ch, .int .i64 a] 72))
  obtain ⟨p0, p1, pf0, pf1⟩ := HP.out.c2
  go_enter Tryz.func153, Tryz.ntmps153
  go_wp2_with fail
  go_loopg [9, 10] l.length (fun kx s9 s10 wr => ∃ lo hi : Nat, s9 = .int .i64 (lo : Int) ∧ s10 = .int .i64 (hi : Int) ∧ lo ≤ hi ∧ hi ≤ l.length ∧ hi - lo ≤ kx ∧ Hid (Below w.heap.size w wr) ∧ Hid (Blk wr w.heap.size 72 #[.int .i64 ch, .int .i64 a]) ∧ Hid (0 < lo → c (lo - 1) < 0) ∧ Hid (hi < l.length → 0 ≤ c hi))
  case atStart => exact ⟨0, l.length, rfl, rfl, Nat.zero_le _, Nat.le_refl _, by omega, HB, HP, Lib.hid (fun h => absurd h (Nat.lt_irrefl 0)), Lib.hid (fun h => absurd h (Nat.lt_irrefl _))⟩
  case round =>
    clear HB HP p0 p1 pf0 pf1
    obtain ⟨lo, hi, rfl, rfl, hlh, hin, hg, HB, HP, H1, H2⟩ := hrel
    by_cases hlt : lo < hi
    · have hml : (lo + hi) / 2 < l.length := by omega
      obtain ⟨b, o, rfl, hb, hC⟩ := hv2.out (fun h => by subst h; simp at hml)
      replace hC : GnsC w b o l := hC
      have HC := Lib.hid hC; clear hC
      have hcm := hcc.out ((lo + hi) / 2) hml
      have hbr : b < wr.heap.size := by have := HB.out.size; omega
      have HCM := Lib.hid hcm; clear hcm
      go_wp2_with fail
      have hmid : ((lo : Int) + (hi : Int)) / 2 = (((lo + hi) / 2 : Nat) : Int) := by omega
      have hmi : (((lo + hi) / 2 : Nat) : Int) < (l.length : Int) := by omega
      rw [hmid]
      clear hmid
      have hm1 : lo ≤ (lo + hi) / 2 := by omega
      have hm2 : (lo + hi) / 2 < hi := by omega
      generalize (lo + hi) / 2 = mi at *
      by_cases hc : c (mi) < 0
      · have K1 : Hid (0 < mi + 1 → c (mi + 1 - 1) < 0) := Lib.hid fun _ => by rw [Nat.add_sub_cancel]; exact hc
        generalize hcv : c (mi) = cv at hc HCM
        clear hcv
        have f0 := fun p : BelowOf _ => (HP.out.keep p.h).c2.1
        have f1 := fun p : BelowOf _ => (HP.out.keep p.h).c2.2.1
        have r0 := fun p : BelowOf _ => ((HC.out.below (bch' HB.out p.h) hb) mi hml).1
        have r1 := fun p : BelowOf _ => ((HC.out.below (bch' HB.out p.h) hb) mi hml).2.1
        have r2 := fun p : BelowOf _ => ((HC.out.below (bch' HB.out p.h) hb) mi hml).2.2
        refine wp_region_WQ (by kernel_rfl) (by kernel_rfl) ?_
        repeat (refine WQ.step (fun K hK => ?_); go_simp; first | (refine hK.out _ ?_; clear hK K) | (apply Exists.intro; refine ⟨fun _ => ?_, hK.out _ ?_⟩; (first | rfl | exact calls_below_of _ (HCM.out _)); clear hK K))
        refine WQ.nil ?_
        intro _ hw'
        obtain ⟨⟨wq, hbq⟩, hw2⟩ := hw'
        subst hw2
        replace HP := Lib.hid (HP.out.keep hbq)
        replace HB := Lib.hid (bch' HB.out hbq)
        clear f0 f1 r0 r1 r2
        go_wp2_with fail
        go_roundg (hi - (mi + 1))
        case measure => omega
        case rel => exact ⟨mi + 1, hi, by first | rfl | simp, rfl, by omega, by omega, Nat.le_refl _, HB, HP, K1, H2⟩
      · have K2 : Hid (mi < l.length → 0 ≤ c (mi)) := Lib.hid fun _ => by omega
        generalize hcv : c (mi) = cv at hc HCM
        clear hcv
        have f0 := fun p : BelowOf _ => (HP.out.keep p.h).c2.1
        have f1 := fun p : BelowOf _ => (HP.out.keep p.h).c2.2.1
        have r0 := fun p : BelowOf _ => ((HC.out.below (bch' HB.out p.h) hb) mi hml).1
        have r1 := fun p : BelowOf _ => ((HC.out.below (bch' HB.out p.h) hb) mi hml).2.1
        have r2 := fun p : BelowOf _ => ((HC.out.below (bch' HB.out p.h) hb) mi hml).2.2
        refine wp_region_WQ (by kernel_rfl) (by kernel_rfl) ?_
        repeat (refine WQ.step (fun K hK => ?_); go_simp; first | (refine hK.out _ ?_; clear hK K) | (apply Exists.intro; refine ⟨fun _ => ?_, hK.out _ ?_⟩; (first | rfl | exact calls_below_of _ (HCM.out _)); clear hK K))
        refine WQ.nil ?_
        intro _ hw'
        obtain ⟨⟨wq, hbq⟩, hw2⟩ := hw'
        subst hw2
        replace HP := Lib.hid (HP.out.keep hbq)
        replace HB := Lib.hid (bch' HB.out hbq)
        clear f0 f1 r0 r1 r2
        go_wp2_with fail
        go_roundg (mi - lo)
        case measure => omega
        case rel => exact ⟨lo, mi, rfl, rfl, by omega, by omega, Nat.le_refl _, HB, HP, H1, K2⟩
    · obtain rfl : hi = lo := by omega
      have HV : Hid (Halved c l.length hi) := Lib.hid ⟨hin, H1.out, H2.out⟩
      by_cases hn : hi < l.length
      · obtain ⟨b, o, rfl, hb, hC⟩ := hv2.out (fun h => by subst h; simp at hn)
        replace hC : GnsC w b o l := hC
        have HC := Lib.hid hC; clear hC
        have hcm := hcc.out hi hn
        have hbr : b < wr.heap.size := by have := HB.out.size; omega
        have HCM := Lib.hid hcm; clear hcm
        have hni : (hi : Int) < (l.length : Int) := by omega
        have hnd : decide (hi < l.length) = true := decide_eq_true hn
        go_wp2_with fail
        by_cases hc : c hi = 0
        · have HR : Hid (decide (hi < l.length ∧ c hi = 0) = true) := Lib.hid (decide_eq_true ⟨hn, hc⟩)
          rw [hc] at HCM
          clear hc H1 H2
          have f0 := fun p : BelowOf _ => (HP.out.keep p.h).c2.1
          have f1 := fun p : BelowOf _ => (HP.out.keep p.h).c2.2.1
          have r0 := fun p : BelowOf _ => ((HC.out.below (bch' HB.out p.h) hb) hi hn).1
          have r1 := fun p : BelowOf _ => ((HC.out.below (bch' HB.out p.h) hb) hi hn).2.1
          have r2 := fun p : BelowOf _ => ((HC.out.below (bch' HB.out p.h) hb) hi hn).2.2
          refine wp_region_WQ (by kernel_rfl) (by kernel_rfl) ?_
          repeat (refine WQ.step (fun K hK => ?_); go_simp; first | (refine hK.out _ ?_; clear hK K) | (apply Exists.intro; refine ⟨fun _ => ?_, hK.out _ ?_⟩; (first | rfl | exact calls_below_of _ (HCM.out _)); clear hK K))
          refine WQ.nil ?_
          intro _ hw'
          obtain ⟨⟨wq, hbq⟩, hw2⟩ := hw'
          subst hw2
          replace HP := Lib.hid (HP.out.keep hbq)
          replace HB := Lib.hid (bch' HB.out hbq)
          clear f0 f1 r0 r1 r2
          go_wp2_with fail
          go_ret2
          exact ⟨hi, HV.out, by rw [HR.out]; rfl, HB.out⟩
        · have HR : Hid (decide (hi < l.length ∧ c hi = 0) = false) := Lib.hid (decide_eq_false fun h => hc h.2)
          have hcb : ((c hi : Int) == 0) = false := by simpa using hc
          clear hc H1 H2
          generalize hcv : c hi = cv at hcb HCM
          clear hcv
          have f0 := fun p : BelowOf _ => (HP.out.keep p.h).c2.1
          have f1 := fun p : BelowOf _ => (HP.out.keep p.h).c2.2.1
          have r0 := fun p : BelowOf _ => ((HC.out.below (bch' HB.out p.h) hb) hi hn).1
          have r1 := fun p : BelowOf _ => ((HC.out.below (bch' HB.out p.h) hb) hi hn).2.1
          have r2 := fun p : BelowOf _ => ((HC.out.below (bch' HB.out p.h) hb) hi hn).2.2
          refine wp_region_WQ (by kernel_rfl) (by kernel_rfl) ?_
          repeat (refine WQ.step (fun K hK => ?_); go_simp; first | (refine hK.out _ ?_; clear hK K) | (apply Exists.intro; refine ⟨fun _ => ?_, hK.out _ ?_⟩; (first | rfl | exact calls_below_of _ (HCM.out _)); clear hK K))
          refine WQ.nil ?_
          intro _ hw'
          obtain ⟨⟨wq, hbq⟩, hw2⟩ := hw'
          subst hw2
          replace HP := Lib.hid (HP.out.keep hbq)
          replace HB := Lib.hid (bch' HB.out hbq)
          clear f0 f1 r0 r1 r2
          go_wp2_with fail
          go_ret2
          exact ⟨hi, HV.out, by rw [HR.out]; rfl, HB.out⟩
      · have HR : Hid (decide (hi < l.length ∧ c hi = 0) = false) := Lib.hid (decide_eq_false fun h => hn h.1)
        have hni : ¬ (hi : Int) < (l.length : Int) := by omega
        have hnd : decide (hi < l.length) = false := decide_eq_false hn
        clear H1 H2
        go_wp2_with fail
        refine wp_region_WQ (by kernel_rfl) (by kernel_rfl) ?_
        repeat (refine WQ.step (fun K hK => ?_); go_simp; first | (refine hK.out _ ?_; clear hK K) | (apply Exists.intro; refine ⟨fun _ => ?_, hK.out _ ?_⟩; (first | rfl); clear hK K))
        refine WQ.nil ?_
        intro _ hw'
        obtain ⟨⟨wq, hbq⟩, hw2⟩ := hw'
        subst hw2
        replace HP := Lib.hid (HP.out.keep hbq)
        replace HB := Lib.hid (bch' HB.out hbq)
        go_wp2_with fail
        go_ret2
        exact ⟨hi, HV.out, by rw [HR.out]; rfl, HB.out⟩
end Go.Proofs.YtkjelfmgnkkijaaGreatDoor
