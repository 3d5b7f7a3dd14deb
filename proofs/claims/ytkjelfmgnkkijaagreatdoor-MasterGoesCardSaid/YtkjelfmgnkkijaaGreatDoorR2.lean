/-
  The reference of the layers 15 and 26: Check, Table. The reference of layer 26: At, Place, glide, Shown, Gain, Scale, Few, FewFaders. The reference of layer 26: Faders.
-/
import Derived.Test.YtkjelfmgnkkijaaGreatDoorSp
import Derived.Test.YtkjelfmgnkkijaaGreatDoorGl
import Derived.Test.YtkjelfmgnkkijaaGreatDoorQq
import Derived.Deep.DeepCutAuto
import Derived.Deep.Cut
import Derived.Laws.StructEq
set_option linter.unusedVariables false
set_option linter.unusedSimpArgs false
namespace Go.Proofs.YtkjelfmgnkkijaaGreatDoor
open Go.RowKit Go.Shelf Lum
open Go.Lib (decDigits itoa)
attribute [local go_sem] bs_get bs_extract_end bs_extract_from bs_extract bs_append

set_option maxRecDepth 100000 in
set_option maxHeartbeats 2000000 in
theorem r15_param (ch at_ : Int) (w : World) :
    Calls Tryz.prog 106 #[.agg #[.int .i64 ch, .int .i64 at_]] w fun e w' => e = .returned (.int .i64 (parE ch at_)) ∧ Below w.heap.size w w' := by
  have HK := Lib.hid (Blk.new w 72 #[.int .i64 ch, .int .i64 at_])
  have HB := Lib.hid ((Below.refl w.heap.size w).alloc (Nat.le_refl _) (.cells #[.int .i64 ch, .int .i64 at_] 72))
  obtain ⟨k0, k1, kf0, kf1⟩ := HK.out.c2
  by_cases o0 : ch < 1
  · rw [parE_out (by omega)]
    go_enter Tryz.func106, Tryz.ntmps106
    go_wp2_with fail
    go_ret
    exact ⟨rfl, HB.out⟩
  by_cases o1 : 999 < ch
  · rw [parE_out (by omega)]
    go_enter Tryz.func106, Tryz.ntmps106
    go_wp2_with fail
    go_ret
    exact ⟨rfl, HB.out⟩
  by_cases o2 : at_ < 0
  · rw [parE_out (by omega)]
    go_enter Tryz.func106, Tryz.ntmps106
    go_wp2_with fail
    go_ret
    exact ⟨rfl, HB.out⟩
  by_cases o3 : 15 ≤ at_
  · rw [parE_out (by omega)]
    go_enter Tryz.func106, Tryz.ntmps106
    go_wp2_with fail
    go_ret
    exact ⟨rfl, HB.out⟩
  rw [parE_in (by omega)]
  go_enter Tryz.func106, Tryz.ntmps106
  go_wp2_with fail
  go_ret
  exact ⟨rfl, HB.out⟩

theorem r15_islevel (v : Int) (w : World) :
    Calls Tryz.prog 113 #[.int .i64 v] w fun e w' => e = .returned (.bool (decide (0 ≤ v ∧ v ≤ 65535))) ∧ w = w' := by
  by_cases h1 : 0 ≤ v
  · by_cases h2 : v ≤ 65535
    · rw [decide_eq_true (⟨h1, h2⟩ : 0 ≤ v ∧ v ≤ 65535)]
      go_enter Tryz.func113, Tryz.ntmps113
      go_wp2
      go_ret
      exact ⟨rfl, rfl⟩
    · rw [decide_eq_false (fun h => h2 h.2 : ¬ (0 ≤ v ∧ v ≤ 65535))]
      go_enter Tryz.func113, Tryz.ntmps113
      go_wp2
      go_ret
      exact ⟨rfl, rfl⟩
  · rw [decide_eq_false (fun h => h1 h.1 : ¬ (0 ≤ v ∧ v ≤ 65535))]
    go_enter Tryz.func113, Tryz.ntmps113
    go_wp2
    go_ret
    exact ⟨rfl, rfl⟩

set_option maxRecDepth 100000 in
set_option maxHeartbeats 2000000 in
theorem r15_before (c a d b : Int) (w : World) :
    Calls Tryz.prog 114 #[.agg #[.int .i64 c, .int .i64 a], .agg #[.int .i64 d, .int .i64 b]] w fun e w' => e = .returned (.bool (decide (befP c a d b))) ∧ Below w.heap.size w w' := by
  have hal := ((Below.refl w.heap.size w).alloc (Nat.le_refl _) (.cells #[.int .i64 c, .int .i64 a] 72)).alloc (by simp) (.cells #[.int .i64 d, .int .i64 b] 72)
  have HB := Lib.hid hal; clear hal
  by_cases h1 : c < d
  · rw [show decide (befP c a d b) = true from decide_eq_true (.inl h1)]
    go_enter Tryz.func114, Tryz.ntmps114
    go_wp2_with fail
    go_ret
    exact ⟨rfl, HB.out⟩
  · by_cases h2 : c = d
    · by_cases h3 : a < b
      · rw [show decide (befP c a d b) = true from decide_eq_true (.inr ⟨h2, h3⟩)]
        have h2b : ((c : Int) == d) = true := by simpa using h2
        clear h2
        go_enter Tryz.func114, Tryz.ntmps114
        go_wp2_with fail
        go_ret
        exact ⟨rfl, HB.out⟩
      · rw [show decide (befP c a d b) = false from decide_eq_false (by unfold befP; omega)]
        have h2b : ((c : Int) == d) = true := by simpa using h2
        clear h2
        go_enter Tryz.func114, Tryz.ntmps114
        go_wp2_with fail
        go_ret
        exact ⟨rfl, HB.out⟩
    · rw [show decide (befP c a d b) = false from decide_eq_false (by unfold befP; omega)]
      have h2b : ((c : Int) == d) = false := by simpa using h2
      go_enter Tryz.func114, Tryz.ntmps114
      go_wp2_with fail
      go_ret
      exact ⟨rfl, HB.out⟩

set_option maxRecDepth 100000 in
set_option maxHeartbeats 8000000 in
theorem r26_check (nu pr : Int) (inh : Bool) (gs : List Gn) (gv : Value) (w : World) (hv : GnsAt w gv gs) :
    Calls Tryz.prog 41 #[.agg #[.int .i64 nu, .int .i64 pr, .bool (inh), gv]] w fun e w' => e = .returned (.int .i64 (subE nu pr inh gs)) ∧ Below w.heap.size w w' := by
  obtain ⟨p, c, rfl, -, hv1⟩ := hv
  have hv2 := Lib.hid hv1; clear hv1
  have HK := Lib.hid (Blk.new w 58 #[.int .i64 nu, .int .i64 pr, .bool (inh), .slice p gs.length c])
  have HB := Lib.hid ((Below.refl w.heap.size w).alloc (Nat.le_refl _) (.cells #[.int .i64 nu, .int .i64 pr, .bool (inh), .slice p gs.length c] 58))
  obtain ⟨k0, k1, k2, k3, kf0, kf1, kf2, kf3⟩ := HK.out.c4
  by_cases o0 : nu < 1
  · rw [subE_num (by omega)]
    go_enter Tryz.func41, Tryz.ntmps41
    go_wp2_with fail
    go_ret
    exact ⟨rfl, HB.out⟩
  by_cases o1 : 1048576 < nu
  · rw [subE_num (by omega)]
    go_enter Tryz.func41, Tryz.ntmps41
    go_wp2_with fail
    go_ret
    exact ⟨rfl, HB.out⟩
  by_cases o2 : pr < 0
  · rw [subE_num (by omega)]
    go_enter Tryz.func41, Tryz.ntmps41
    go_wp2_with fail
    go_ret
    exact ⟨rfl, HB.out⟩
  by_cases o3 : 9 < pr
  · rw [subE_num (by omega)]
    go_enter Tryz.func41, Tryz.ntmps41
    go_wp2_with fail
    go_ret
    exact ⟨rfl, HB.out⟩
  have on : ¬ (nu < 1 ∨ 1048576 < nu ∨ pr < 0 ∨ 9 < pr) := by omega
  by_cases o4 : 128 < gs.length
  · have o5 : (128 : Int) < (gs.length : Int) := by omega
    rw [subE_many on o4]
    clear on
    go_enter Tryz.func41, Tryz.ntmps41
    go_wp2_with fail
    go_ret
    exact ⟨rfl, HB.out⟩
  · have o5 : ¬ (128 : Int) < (gs.length : Int) := by omega
    have hE := subE_gs (inh := inh) on o4
    have HE := Lib.hid hE; clear hE on
    go_enter Tryz.func41, Tryz.ntmps41
    go_wp2_with fail
    go_loopw [3] (fun i wr => ∃ k r : Nat, i = .int .i64 (k : Int) ∧ Hid (k + r = gs.length) ∧ Hid (Below w.heap.size w wr) ∧ Hid (Blk wr w.heap.size 58 #[.int .i64 nu, .int .i64 pr, .bool inh, .slice p gs.length c]) ∧ Hid (gaE inh gs r k = gaE inh gs gs.length 0)) (fun i _ => gs.length - (intOf i).toNat)
    case atStart => exact ⟨0, gs.length, rfl, Lib.hid (by omega), HB, HK, Lib.hid rfl⟩
    case round =>
      obtain ⟨k, r, rfl, hkr, HB2, HK2, HS⟩ := hrel
      clear HB HK k0 k1 k2 k3 kf0 kf1 kf2 kf3
      have HB := HB2; have HK := HK2; clear HB2 HK2
      obtain ⟨k0, k1, k2, k3, kf0, kf1, kf2, kf3⟩ := HK.out.c4
      cases r with
      | zero =>
        have hlt : ¬ (k : Int) < (gs.length : Int) := by have := hkr.out; omega
        have he : subE nu pr inh gs = 0 := by rw [HE.out, ← HS.out]; rfl
        have HE2 := Lib.hid he; clear he
        go_wp2
        go_ret
        exact ⟨by rw [HE2.out]; rfl, HB.out⟩
      | succ r =>
        have hkl : k < gs.length := by have := hkr.out; omega
        have hlt : (k : Int) < (gs.length : Int) := by omega
        obtain ⟨b, o, rfl, hb, hC⟩ := hv2.out (fun h => by subst h; simp at hkl)
        have HC := Lib.hid hC; clear hC
        replace HC : Hid (GnsC w b o gs) := HC
        obtain ⟨x1, x2, x3⟩ := HC.out.below HB.out hb k hkl
        have hbr : b < wr.heap.size := by have := HB.out.size; omega
        have hun : IntKind.i64.wrap ((k : Int) + 1) = (k : Int) + 1 := IntWalk.i64_in _ (by omega)
        have hpa := fun W => r15_param (gnv gs k).ch (gnv gs k).at_ W
        have hle := fun W => r15_islevel (gnv gs k).lev W
        have hG := Blk.new wr 85 #[.int .i64 (gnv gs k).ch, .int .i64 (gnv gs k).at_, .int .i64 (gnv gs k).lev]
        have HG := Lib.hid hG; clear hG
        replace HB := Lib.hid (HB.out.alloc HB.out.size (.cells #[.int .i64 (gnv gs k).ch, .int .i64 (gnv gs k).at_, .int .i64 (gnv gs k).lev] 85))
        have HJ := Lib.hid (HK.out.alloc (.cells #[.int .i64 (gnv gs k).ch, .int .i64 (gnv gs k).at_, .int .i64 (gnv gs k).lev] 85))
        obtain ⟨j0, j1, j2, j3, jf0, jf1, jf2, jf3⟩ := HJ.out.c4
        obtain ⟨g0, g1, g2, gf0, gf1, gf2⟩ := HG.out.c3
        by_cases c1 : parE (gnv gs k).ch (gnv gs k).at_ = 0
        · rw [c1] at hpa
          by_cases c2 : (gnv gs k).lev < 0 ∨ 65535 < (gnv gs k).lev
          · rw [decide_eq_false (by omega)] at hle
            have he : subE nu pr inh gs = 2 := by rw [HE.out, ← HS.out, gaE_lev c1 c2]
            have HE2 := Lib.hid he; clear he c1 c2 HS HE
            have HPA := Lib.hid hpa; clear hpa
            have HLE := Lib.hid hle; clear hle
            go_wp2_with (first | (with_reducible refine ((HPA.out _).mono ?_); rintro e w' ⟨rfl, hb⟩; replace HJ := Lib.hid (HJ.out.keep hb); clear j0 j1 j2 j3 jf0 jf1 jf2 jf3; replace HG := Lib.hid (HG.out.keep hb); clear g0 g1 g2 gf0 gf1 gf2; replace HB := Lib.hid (bch' HB.out hb); clear hb; obtain ⟨j0, j1, j2, j3, jf0, jf1, jf2, jf3⟩ := HJ.out.c4; obtain ⟨g0, g1, g2, gf0, gf1, gf2⟩ := HG.out.c3) | (with_reducible refine ((HLE.out _).mono ?_); rintro e w' ⟨rfl, rfl⟩))
            go_ret
            exact ⟨by rw [HE2.out]; rfl, HB.out⟩
          · rw [decide_eq_true (by omega)] at hle
            by_cases c3 : inh = true ∧ (gnv gs k).at_ ≠ 0
            · have he : subE nu pr inh gs = 11 := by rw [HE.out, ← HS.out, gaE_use c1 c2 c3]
              have HE2 := Lib.hid he; clear he c1 HS HE c2
              obtain ⟨rfl, c4⟩ := c3
              have c5 : (((gnv gs k).at_ : Int) != 0) = true := by simpa using c4
              clear c4
              have HPA := Lib.hid hpa; clear hpa
              have HLE := Lib.hid hle; clear hle
              go_wp2_with (first | (with_reducible refine ((HPA.out _).mono ?_); rintro e w' ⟨rfl, hb⟩; replace HJ := Lib.hid (HJ.out.keep hb); clear j0 j1 j2 j3 jf0 jf1 jf2 jf3; replace HG := Lib.hid (HG.out.keep hb); clear g0 g1 g2 gf0 gf1 gf2; replace HB := Lib.hid (bch' HB.out hb); clear hb; obtain ⟨j0, j1, j2, j3, jf0, jf1, jf2, jf3⟩ := HJ.out.c4; obtain ⟨g0, g1, g2, gf0, gf1, gf2⟩ := HG.out.c3) | (with_reducible refine ((HLE.out _).mono ?_); rintro e w' ⟨rfl, rfl⟩))
              go_ret
              exact ⟨by rw [HE2.out]; rfl, HB.out⟩
            · have c4 : inh = false ∨ (inh = true ∧ (((gnv gs k).at_ : Int) != 0) = false) := by
                cases inh
                · exact .inl rfl
                · exact .inr ⟨rfl, by simpa using fun h => c3 ⟨rfl, h⟩⟩
              by_cases hk0 : 0 < k
              · have hk1 : k - 1 < gs.length := by omega
                have hg0 : decide (0 < k) = true := decide_eq_true hk0
                have hgi : (0 : Int) < (k : Int) := by omega
                have hm1 : IntKind.i64.wrap ((k : Int) - 1) = ((k - 1 : Nat) : Int) := by rw [IntWalk.i64_in _ (by omega)]; omega
                have hcm := fun W => r15_before (gnv gs (k - 1)).ch (gnv gs (k - 1)).at_ (gnv gs k).ch (gnv gs k).at_ W
                by_cases c5 : befP (gnv gs (k - 1)).ch (gnv gs (k - 1)).at_ (gnv gs k).ch (gnv gs k).at_
                · have HF : Hid (gaE inh gs r (k + 1) = gaE inh gs gs.length 0) := by show _ = _; rw [← HS.out, gaE_go c1 c2 c3 (fun h => h.2 c5)]
                  clear HS HE
                  rw [decide_eq_true c5] at hcm
                  clear c1 c2 c3
                  clear c5
                  have HPA := Lib.hid hpa; clear hpa
                  have HLE := Lib.hid hle; clear hle
                  have HCM := Lib.hid hcm; clear hcm
                  rcases c4 with rfl | ⟨rfl, c6⟩
                  all_goals
                    go_wp2_with (first | (with_reducible refine ((HPA.out _).mono ?_); rintro e w' ⟨rfl, hb⟩; replace HJ := Lib.hid (HJ.out.keep hb); clear j0 j1 j2 j3 jf0 jf1 jf2 jf3; replace HG := Lib.hid (HG.out.keep hb); clear g0 g1 g2 gf0 gf1 gf2; replace HB := Lib.hid (bch' HB.out hb); clear hb; obtain ⟨j0, j1, j2, j3, jf0, jf1, jf2, jf3⟩ := HJ.out.c4; obtain ⟨g0, g1, g2, gf0, gf1, gf2⟩ := HG.out.c3) | (with_reducible refine ((HLE.out _).mono ?_); rintro e w' ⟨rfl, rfl⟩))
                    have f0 := fun p : BelowOf _ => (HJ.out.keep p.h).c4.1
                    have f1 := fun p : BelowOf _ => (HJ.out.keep p.h).c4.2.1
                    have f2 := fun p : BelowOf _ => (HJ.out.keep p.h).c4.2.2.1
                    have f3 := fun p : BelowOf _ => (HJ.out.keep p.h).c4.2.2.2.1
                    have g0q := fun p : BelowOf _ => (HG.out.keep p.h).c3.1
                    have g1q := fun p : BelowOf _ => (HG.out.keep p.h).c3.2.1
                    have g2q := fun p : BelowOf _ => (HG.out.keep p.h).c3.2.2.1
                    have r1 := fun p : BelowOf _ => ((HC.out.below (bch' HB.out p.h) hb) (k - 1) hk1).1
                    have r2 := fun p : BelowOf _ => ((HC.out.below (bch' HB.out p.h) hb) (k - 1) hk1).2.1
                    refine wp_region_WQ (by kernel_rfl) (by kernel_rfl) ?_
                    repeat (refine WQ.step (fun K hK => ?_); go_simp; first | (refine hK.out _ ?_; clear hK K) | (apply Exists.intro; refine ⟨fun _ => ?_, hK.out _ ?_⟩; (first | rfl | (go_at_call 114; exact calls_below_of _ (HCM.out _))); clear hK K))
                    refine WQ.nil ?_
                    intro _ hw'
                    obtain ⟨⟨wq, hbq⟩, hw2⟩ := hw'
                    subst hw2
                    replace HJ := Lib.hid (HJ.out.keep hbq)
                    replace HB := Lib.hid (bch' HB.out hbq)
                    clear f0 f1 f2 f3 g0q g1q g2q r1 r2
                    go_wp2_with fail
                    go_roundw
                    case rel => exact ⟨k + 1, r, by first | rfl | simp, Lib.hid (by have := hkr.out; omega), HB, HJ, HF⟩
                    case measure => first | (simp [intOf]; done) | (simp [intOf]; omega)
                · have he : subE nu pr inh gs = 9 := by rw [HE.out, ← HS.out, gaE_ord c1 c2 c3 ⟨hk0, c5⟩]
                  have HE2 := Lib.hid he; clear he
                  rw [decide_eq_false c5] at hcm
                  clear c1 c2 c3
                  clear c5 HS HE
                  have HPA := Lib.hid hpa; clear hpa
                  have HLE := Lib.hid hle; clear hle
                  have HCM := Lib.hid hcm; clear hcm
                  rcases c4 with rfl | ⟨rfl, c6⟩
                  all_goals
                    go_wp2_with (first | (with_reducible refine ((HPA.out _).mono ?_); rintro e w' ⟨rfl, hb⟩; replace HJ := Lib.hid (HJ.out.keep hb); clear j0 j1 j2 j3 jf0 jf1 jf2 jf3; replace HG := Lib.hid (HG.out.keep hb); clear g0 g1 g2 gf0 gf1 gf2; replace HB := Lib.hid (bch' HB.out hb); clear hb; obtain ⟨j0, j1, j2, j3, jf0, jf1, jf2, jf3⟩ := HJ.out.c4; obtain ⟨g0, g1, g2, gf0, gf1, gf2⟩ := HG.out.c3) | (with_reducible refine ((HLE.out _).mono ?_); rintro e w' ⟨rfl, rfl⟩))
                    have f0 := fun p : BelowOf _ => (HJ.out.keep p.h).c4.1
                    have f1 := fun p : BelowOf _ => (HJ.out.keep p.h).c4.2.1
                    have f2 := fun p : BelowOf _ => (HJ.out.keep p.h).c4.2.2.1
                    have f3 := fun p : BelowOf _ => (HJ.out.keep p.h).c4.2.2.2.1
                    have g0q := fun p : BelowOf _ => (HG.out.keep p.h).c3.1
                    have g1q := fun p : BelowOf _ => (HG.out.keep p.h).c3.2.1
                    have g2q := fun p : BelowOf _ => (HG.out.keep p.h).c3.2.2.1
                    have r1 := fun p : BelowOf _ => ((HC.out.below (bch' HB.out p.h) hb) (k - 1) hk1).1
                    have r2 := fun p : BelowOf _ => ((HC.out.below (bch' HB.out p.h) hb) (k - 1) hk1).2.1
                    refine wp_region_WQ (by kernel_rfl) (by kernel_rfl) ?_
                    repeat (refine WQ.step (fun K hK => ?_); go_simp; first | (refine hK.out _ ?_; clear hK K) | (apply Exists.intro; refine ⟨fun _ => ?_, hK.out _ ?_⟩; (first | rfl | (go_at_call 114; exact calls_below_of _ (HCM.out _))); clear hK K))
                    refine WQ.nil ?_
                    intro _ hw'
                    obtain ⟨⟨wq, hbq⟩, hw2⟩ := hw'
                    subst hw2
                    replace HJ := Lib.hid (HJ.out.keep hbq)
                    replace HB := Lib.hid (bch' HB.out hbq)
                    clear f0 f1 f2 f3 g0q g1q g2q r1 r2
                    go_wp2_with fail
                    go_ret
                    exact ⟨by rw [HE2.out]; rfl, HB.out⟩
              · have HF : Hid (gaE inh gs r (k + 1) = gaE inh gs gs.length 0) := by show _ = _; rw [← HS.out, gaE_go c1 c2 c3 (fun h => hk0 h.1)]
                clear HS HE
                obtain rfl : k = 0 := by omega
                clear c1 c2 c3
                have HPA := Lib.hid hpa; clear hpa
                have HLE := Lib.hid hle; clear hle
                simp only [Nat.zero_mul, Nat.add_zero] at x1 x2 x3
                rcases c4 with rfl | ⟨rfl, c6⟩
                all_goals
                  go_wp2_with (first | (with_reducible refine ((HPA.out _).mono ?_); rintro e w' ⟨rfl, hb⟩; replace HJ := Lib.hid (HJ.out.keep hb); clear j0 j1 j2 j3 jf0 jf1 jf2 jf3; replace HG := Lib.hid (HG.out.keep hb); clear g0 g1 g2 gf0 gf1 gf2; replace HB := Lib.hid (bch' HB.out hb); clear hb; obtain ⟨j0, j1, j2, j3, jf0, jf1, jf2, jf3⟩ := HJ.out.c4; obtain ⟨g0, g1, g2, gf0, gf1, gf2⟩ := HG.out.c3) | (with_reducible refine ((HLE.out _).mono ?_); rintro e w' ⟨rfl, rfl⟩))
                  have f0 := fun p : BelowOf _ => (HJ.out.keep p.h).c4.1
                  have f1 := fun p : BelowOf _ => (HJ.out.keep p.h).c4.2.1
                  have f2 := fun p : BelowOf _ => (HJ.out.keep p.h).c4.2.2.1
                  have f3 := fun p : BelowOf _ => (HJ.out.keep p.h).c4.2.2.2.1
                  have g0q := fun p : BelowOf _ => (HG.out.keep p.h).c3.1
                  have g1q := fun p : BelowOf _ => (HG.out.keep p.h).c3.2.1
                  have g2q := fun p : BelowOf _ => (HG.out.keep p.h).c3.2.2.1
                  refine wp_region_WQ (by kernel_rfl) (by kernel_rfl) ?_
                  repeat (refine WQ.step (fun K hK => ?_); go_simp; first | (refine hK.out _ ?_; clear hK K) | (apply Exists.intro; refine ⟨fun _ => ?_, hK.out _ ?_⟩; (first | rfl); clear hK K))
                  refine WQ.nil ?_
                  intro _ hw'
                  obtain ⟨⟨wq, hbq⟩, hw2⟩ := hw'
                  subst hw2
                  replace HJ := Lib.hid (HJ.out.keep hbq)
                  replace HB := Lib.hid (bch' HB.out hbq)
                  clear f0 f1 f2 f3 g0q g1q g2q
                  go_wp2_with fail
                  go_roundw
                  case rel => exact ⟨0 + 1, r, by first | rfl | simp, Lib.hid (by have := hkr.out; omega), HB, HJ, HF⟩
                  case measure => first | (simp [intOf]; done) | (simp [intOf]; omega)
        · have he : subE nu pr inh gs = parE (gnv gs k).ch (gnv gs k).at_ := by rw [HE.out, ← HS.out, gaE_par c1]
          have hne : ((parE (gnv gs k).ch (gnv gs k).at_ : Int) != 0) = true := by simpa using c1
          have HE2 := Lib.hid he; clear he c1 HS HE
          generalize parE (gnv gs k).ch (gnv gs k).at_ = m at *
          have HPA := Lib.hid hpa; clear hpa
          have HLE := Lib.hid hle; clear hle
          go_wp2_with (first | (with_reducible refine ((HPA.out _).mono ?_); rintro e w' ⟨rfl, hb⟩; replace HJ := Lib.hid (HJ.out.keep hb); clear j0 j1 j2 j3 jf0 jf1 jf2 jf3; replace HG := Lib.hid (HG.out.keep hb); clear g0 g1 g2 gf0 gf1 gf2; replace HB := Lib.hid (bch' HB.out hb); clear hb; obtain ⟨j0, j1, j2, j3, jf0, jf1, jf2, jf3⟩ := HJ.out.c4; obtain ⟨g0, g1, g2, gf0, gf1, gf2⟩ := HG.out.c3) | (with_reducible refine ((HLE.out _).mono ?_); rintro e w' ⟨rfl, rfl⟩))
          go_ret
          exact ⟨by rw [HE2.out]; rfl, HB.out⟩

set_option maxRecDepth 100000 in
set_option maxHeartbeats 8000000 in
theorem r26_table (l : List Sb) (v : Value) (w : World) (hv : SbsAt w v l) :
    Calls Tryz.prog 49 #[v] w fun e w' => e = .returned (.int .i64 (tabE l)) ∧ Below w.heap.size w w' := by
  obtain ⟨p, c, rfl, -, hv1⟩ := hv
  have hv2 := Lib.hid hv1; clear hv1
  have HB := Lib.hid (Below.refl w.heap.size w)
  by_cases o4 : 16 < l.length
  · have o5 : (16 : Int) < (l.length : Int) := by omega
    rw [tabE_many o4]
    go_enter Tryz.func49, Tryz.ntmps49
    go_wp2_with fail
    go_ret
    exact ⟨rfl, HB.out⟩
  · have o5 : ¬ (16 : Int) < (l.length : Int) := by omega
    have hE := tabE_few o4
    have HE := Lib.hid hE; clear hE
    go_enter Tryz.func49, Tryz.ntmps49
    go_wp2_with fail
    go_loopw [3] (fun i wr => ∃ k r : Nat, i = .int .i64 (k : Int) ∧ Hid (k + r = l.length) ∧ Hid (Below w.heap.size w wr) ∧ Hid (tuE l r k = tuE l l.length 0)) (fun i _ => l.length - (intOf i).toNat)
    case atStart => exact ⟨0, l.length, rfl, Lib.hid (by omega), HB, Lib.hid rfl⟩
    case round =>
      obtain ⟨k, r, rfl, hkr, HB2, HS⟩ := hrel
      clear HB
      have HB := HB2; clear HB2
      cases r with
      | zero =>
        have hlt : ¬ (k : Int) < (l.length : Int) := by have := hkr.out; omega
        have he : tabE l = 0 := by rw [HE.out, ← HS.out]; rfl
        have HE2 := Lib.hid he; clear he
        go_wp2
        go_ret
        exact ⟨by rw [HE2.out]; rfl, HB.out⟩
      | succ r =>
        have hkl : k < l.length := by have := hkr.out; omega
        have hlt : (k : Int) < (l.length : Int) := by omega
        obtain ⟨b, o, rfl, hb, hC⟩ := hv2.out (fun h => by subst h; simp at hkl)
        have HC := Lib.hid hC; clear hC
        obtain ⟨x1, x2, x3, gv, x4, hgn⟩ := HC.out.below HB.out hb k hkl
        have hbr : b < wr.heap.size := by have := HB.out.size; omega
        have hun : IntKind.i64.wrap ((k : Int) + 1) = (k : Int) + 1 := IntWalk.i64_in _ (by omega)
        have HGN := Lib.hid hgn; clear hgn
        have hck := fun W (h : GnsAt W gv (sbv l k).gs) => r26_check (sbv l k).nu (sbv l k).pr (sbv l k).inh (sbv l k).gs gv W h
        change ∀ W (h : GnsAt W gv (sbv l k).gs), Calls _ _ _ W (fun e w' => e = .returned (.int .i64 (sbE (sbv l k))) ∧ _) at hck
        have hlS : ∀ h : 0 < k, lastS l k = (sbv l (k - 1)).nu := fun h => by unfold lastS; rw [if_neg (by omega)]
        by_cases c1 : sbE (sbv l k) = 0
        · rw [c1] at hck
          by_cases hk0 : 0 < k
          · have hk1 : k - 1 < l.length := by omega
            have hg0 : decide (0 < k) = true := decide_eq_true hk0
            have hgi : (0 : Int) < (k : Int) := by omega
            have hm1 : IntKind.i64.wrap ((k : Int) - 1) = ((k - 1 : Nat) : Int) := by rw [IntWalk.i64_in _ (by omega)]; omega
            by_cases c2 : (sbv l k).nu ≤ lastS l k
            · have c3 : decide ((sbv l k).nu ≤ (sbv l (k - 1)).nu) = true := decide_eq_true (by rw [← hlS hk0]; exact c2)
              have he : tabE l = 9 := by rw [HE.out, ← HS.out, tuE_ord c1 c2]
              have HE2 := Lib.hid he; clear he HS HE c1 c2 hlS
              have HCK := Lib.hid hck; clear hck
              go_wp2_with (first | (with_reducible refine ((HCK.out _ HGN.out).mono ?_); rintro e w' ⟨rfl, hb⟩; replace HB := Lib.hid (bch' HB.out hb); clear hb))
              have r1 := fun p : BelowOf _ => ((HC.out.below (bch' HB.out p.h) hb) k hkl).1
              have r2 := fun p : BelowOf _ => ((HC.out.below (bch' HB.out p.h) hb) (k - 1) hk1).1
              refine wp_region_WQ (by kernel_rfl) (by kernel_rfl) ?_
              repeat (refine WQ.step (fun K hK => ?_); go_simp; first | (refine hK.out _ ?_; clear hK K) | (apply Exists.intro; refine ⟨fun _ => ?_, hK.out _ ?_⟩; (first | rfl); clear hK K))
              refine WQ.nil ?_
              intro _ hw'
              obtain ⟨⟨wq, hbq⟩, hw2⟩ := hw'
              subst hw2
              replace HB := Lib.hid (bch' HB.out hbq)
              clear r1 r2
              go_wp2_with fail
              go_ret
              exact ⟨by rw [HE2.out]; rfl, HB.out⟩
            · have c3 : decide ((sbv l k).nu ≤ (sbv l (k - 1)).nu) = false := decide_eq_false (by rw [← hlS hk0]; exact c2)
              have HF : Hid (tuE l r (k + 1) = tuE l l.length 0) := by show _ = _; rw [← HS.out, tuE_go c1 c2]
              clear HS HE c1 c2 hlS
              have HCK := Lib.hid hck; clear hck
              go_wp2_with (first | (with_reducible refine ((HCK.out _ HGN.out).mono ?_); rintro e w' ⟨rfl, hb⟩; replace HB := Lib.hid (bch' HB.out hb); clear hb))
              have r1 := fun p : BelowOf _ => ((HC.out.below (bch' HB.out p.h) hb) k hkl).1
              have r2 := fun p : BelowOf _ => ((HC.out.below (bch' HB.out p.h) hb) (k - 1) hk1).1
              refine wp_region_WQ (by kernel_rfl) (by kernel_rfl) ?_
              repeat (refine WQ.step (fun K hK => ?_); go_simp; first | (refine hK.out _ ?_; clear hK K) | (apply Exists.intro; refine ⟨fun _ => ?_, hK.out _ ?_⟩; (first | rfl); clear hK K))
              refine WQ.nil ?_
              intro _ hw'
              obtain ⟨⟨wq, hbq⟩, hw2⟩ := hw'
              subst hw2
              replace HB := Lib.hid (bch' HB.out hbq)
              clear r1 r2
              go_wp2_with fail
              go_roundw
              case rel => exact ⟨k + 1, r, by first | rfl | simp, Lib.hid (by have := hkr.out; omega), HB, HF⟩
              case measure => first | (simp [intOf]; done) | (simp [intOf]; omega)
          · obtain rfl : k = 0 := by omega
            by_cases c2 : (sbv l 0).nu ≤ lastS l 0
            · exact absurd c2 (by rw [lastS_zero]; have := (subOk c1).nu0; omega)
            · have HF : Hid (tuE l r (0 + 1) = tuE l l.length 0) := by show _ = _; rw [← HS.out, tuE_go c1 c2]
              clear HS HE c1 c2 hlS
              simp only [Nat.zero_mul, Nat.add_zero] at x1 x2 x3 x4
              have HCK := Lib.hid hck; clear hck
              go_wp2_with (first | (with_reducible refine ((HCK.out _ HGN.out).mono ?_); rintro e w' ⟨rfl, hb⟩; replace HB := Lib.hid (bch' HB.out hb); clear hb))
              refine wp_region_WQ (by kernel_rfl) (by kernel_rfl) ?_
              repeat (refine WQ.step (fun K hK => ?_); go_simp; first | (refine hK.out _ ?_; clear hK K) | (apply Exists.intro; refine ⟨fun _ => ?_, hK.out _ ?_⟩; (first | rfl); clear hK K))
              refine WQ.nil ?_
              intro _ hw'
              obtain ⟨⟨wq, hbq⟩, hw2⟩ := hw'
              subst hw2
              replace HB := Lib.hid (bch' HB.out hbq)
              go_wp2_with fail
              go_roundw
              case rel => exact ⟨0 + 1, r, by first | rfl | simp, Lib.hid (by have := hkr.out; omega), HB, HF⟩
              case measure => first | (simp [intOf]; done) | (simp [intOf]; omega)
        · have he : tabE l = sbE (sbv l k) := by rw [HE.out, ← HS.out, tuE_bad c1]
          have HE2 := Lib.hid he; clear he HS HE hlS
          have hne : ((sbE (sbv l k) : Int) != 0) = true := by simpa using c1
          generalize sbE (sbv l k) = m at *
          have HCK := Lib.hid hck; clear hck
          go_wp2_with (first | (with_reducible refine ((HCK.out _ HGN.out).mono ?_); rintro e w' ⟨rfl, hb⟩; replace HB := Lib.hid (bch' HB.out hb); clear hb))
          go_ret
          exact ⟨by rw [HE2.out]; rfl, HB.out⟩
end Go.Proofs.YtkjelfmgnkkijaaGreatDoor
namespace Lum
open Go Go.RowKit Go.Shelf
open Go.Lib (decDigits itoa)
theorem glide_find (nu : Int) (inh : Bool) (l : List Fdr) : (∃ i : Nat, i < l.length ∧ ixOf (fun x => x.su == nu) l = (i : Int) ∧ fadG nu inh l = fdv l i) ∨ (ixOf (fun x => x.su == nu) l = -1 ∧ fadG nu inh l = fadD nu inh) := by
  unfold ixOf
  cases h : l.findIdx? (fun x => x.su == nu) with
  | some i =>
    obtain ⟨hi, hp, hb⟩ := List.findIdx?_eq_some_iff_getElem.1 h
    refine .inl ⟨i, hi, rfl, fadG_at hi (by have := hp; rw [fdv_at hi] at this; simpa using this) (fun j hj => ?_)⟩
    have := hb j hj
    rw [fdv_at (by omega)] at this
    simpa using this
  | none =>
    refine .inr ⟨rfl, fadG_no fun j hj => ?_⟩
    have := List.findIdx?_eq_none_iff.1 h (l[j]'hj) (List.getElem_mem hj)
    rw [fdv_at hj] at this
    simpa using this
end Lum
namespace Go.Proofs.YtkjelfmgnkkijaaGreatDoor
open Go.RowKit Go.Shelf Lum
open Go.Lib (decDigits itoa)
attribute [local go_sem] bs_get bs_extract_end bs_extract_from bs_extract bs_append

set_option maxRecDepth 100000 in
set_option maxHeartbeats 4000000 in
theorem r26_at (l : List Fdr) (n : Int) (v : Value) (w : World) (hv : FdsAt w v l) (hn0 : l.length ≤ 1000000) :
    Calls Tryz.prog 151 #[v, .int .i64 n] w fun e w' => e = .returned (.int .i64 (ixOf (fun x => x.su == n) l)) ∧ Below w.heap.size w w' := by
  obtain ⟨p, c, rfl, -, hv1⟩ := hv
  have hv2 := Lib.hid hv1; clear hv1
  have HB := Lib.hid (Below.refl w.heap.size w)
  go_enter Tryz.func151, Tryz.ntmps151
  go_wp2_with fail
  go_loopw [5] (fun i wr => ∃ k r : Nat, i = .int .i64 (k : Int) ∧ Hid (k + r = l.length) ∧ Hid (Below w.heap.size w wr) ∧ Hid (∀ j, j < k → (fdv l j).su ≠ n)) (fun i _ => l.length - (intOf i).toNat)
  case atStart => exact ⟨0, l.length, rfl, Lib.hid (by omega), HB, Lib.hid (fun j h => absurd h (Nat.not_lt_zero j))⟩
  case round =>
    obtain ⟨k, r, rfl, hkr, HB2, HN⟩ := hrel
    clear HB
    have HB := HB2; clear HB2
    cases r with
    | zero =>
      have hlt : ¬ (k : Int) < (l.length : Int) := by have := hkr.out; omega
      have hr := ixOf_no (p := (fun x => x.su == n)) (l := l) (fun j hj => by rw [fdv_at hj]; simpa using HN.out j (by have := hkr.out; omega))
      have HR := Lib.hid hr; clear hr
      go_wp2
      go_ret
      exact ⟨by rw [HR.out]; rfl, HB.out⟩
    | succ r =>
      have hkl : k < l.length := by have := hkr.out; omega
      have hlt : (k : Int) < (l.length : Int) := by omega
      obtain ⟨b, o, rfl, hb, hC⟩ := hv2.out (fun h => by subst h; simp at hkl)
      replace hC : FdsC w b o l := hC
      obtain ⟨x1, x2, x3, x4, x5, x6⟩ := hC.below HB.out hb k hkl
      clear hC
      have hbr : b < wr.heap.size := by have := HB.out.size; omega
      have hun : IntKind.i64.wrap ((k : Int) + 1) = (k : Int) + 1 := IntWalk.i64_in _ (by omega)
      by_cases e : (fdv l k).su = n
      · have hr := ixOf_at (p := (fun x => x.su == n)) (l := l) hkl (by rw [fdv_at hkl]; simpa using e) (fun j hj => by rw [fdv_at (by omega)]; simpa using HN.out j hj)
        have HR := Lib.hid hr; clear hr
        have eb : (((fdv l k).su : Int) == n) = true := by simpa using e
        clear e
        go_wp2
        go_ret
        exact ⟨by rw [HR.out]; rfl, HB.out⟩
      · have eb : (((fdv l k).su : Int) == n) = false := by simpa using e
        have HN2 : Hid (∀ j, j < k + 1 → (fdv l j).su ≠ n) := fun j hj => by
          by_cases g : j = k
          · subst g; exact e
          · exact HN.out j (by omega)
        clear e
        go_wp2
        go_roundw
        case rel => exact ⟨k + 1, r, by first | rfl | simp, Lib.hid (by have := hkr.out; omega), HB, HN2⟩
        case measure => first | (simp [intOf]; done) | (simp [intOf]; omega)

set_option maxRecDepth 100000 in
set_option maxHeartbeats 4000000 in
theorem r26_place (l : List Sb) (n : Int) (v : Value) (w : World) (hv : SbsAt w v l) (hn0 : l.length ≤ 1000000) :
    Calls Tryz.prog 84 #[v, .int .i64 n] w fun e w' => e = .returned (.int .i64 (ixOf (fun x => x.nu == n) l)) ∧ Below w.heap.size w w' := by
  obtain ⟨p, c, rfl, -, hv1⟩ := hv
  have hv2 := Lib.hid hv1; clear hv1
  have HB := Lib.hid (Below.refl w.heap.size w)
  go_enter Tryz.func84, Tryz.ntmps84
  go_wp2_with fail
  go_loopw [5] (fun i wr => ∃ k r : Nat, i = .int .i64 (k : Int) ∧ Hid (k + r = l.length) ∧ Hid (Below w.heap.size w wr) ∧ Hid (∀ j, j < k → (sbv l j).nu ≠ n)) (fun i _ => l.length - (intOf i).toNat)
  case atStart => exact ⟨0, l.length, rfl, Lib.hid (by omega), HB, Lib.hid (fun j h => absurd h (Nat.not_lt_zero j))⟩
  case round =>
    obtain ⟨k, r, rfl, hkr, HB2, HN⟩ := hrel
    clear HB
    have HB := HB2; clear HB2
    cases r with
    | zero =>
      have hlt : ¬ (k : Int) < (l.length : Int) := by have := hkr.out; omega
      have hr := ixOf_no (p := (fun x => x.nu == n)) (l := l) (fun j hj => by rw [sbv_at hj]; simpa using HN.out j (by have := hkr.out; omega))
      have HR := Lib.hid hr; clear hr
      go_wp2
      go_ret
      exact ⟨by rw [HR.out]; rfl, HB.out⟩
    | succ r =>
      have hkl : k < l.length := by have := hkr.out; omega
      have hlt : (k : Int) < (l.length : Int) := by omega
      obtain ⟨b, o, rfl, hb, hC⟩ := hv2.out (fun h => by subst h; simp at hkl)
      replace hC : SbsC w b o l := hC
      obtain ⟨x1, x2, x3, gv, x4, x5⟩ := hC.below HB.out hb k hkl
      clear hC
      have hbr : b < wr.heap.size := by have := HB.out.size; omega
      have hun : IntKind.i64.wrap ((k : Int) + 1) = (k : Int) + 1 := IntWalk.i64_in _ (by omega)
      by_cases e : (sbv l k).nu = n
      · have hr := ixOf_at (p := (fun x => x.nu == n)) (l := l) hkl (by rw [sbv_at hkl]; simpa using e) (fun j hj => by rw [sbv_at (by omega)]; simpa using HN.out j hj)
        have HR := Lib.hid hr; clear hr
        have eb : (((sbv l k).nu : Int) == n) = true := by simpa using e
        clear e
        go_wp2
        go_ret
        exact ⟨by rw [HR.out]; rfl, HB.out⟩
      · have eb : (((sbv l k).nu : Int) == n) = false := by simpa using e
        have HN2 : Hid (∀ j, j < k + 1 → (sbv l j).nu ≠ n) := fun j hj => by
          by_cases g : j = k
          · subst g; exact e
          · exact HN.out j (by omega)
        clear e
        go_wp2
        go_roundw
        case rel => exact ⟨k + 1, r, by first | rfl | simp, Lib.hid (by have := hkr.out; omega), HB, HN2⟩
        case measure => first | (simp [intOf]; done) | (simp [intOf]; omega)

set_option maxRecDepth 100000 in
set_option maxHeartbeats 4000000 in
theorem r26_glide (nu pr : Int) (inh : Bool) (l : List Fdr) (gv v : Value) (w : World) (hv : FdsAt w v l) (hn0 : l.length ≤ 1000000) :
    Calls Tryz.prog 150 #[.agg #[.int .i64 nu, .int .i64 pr, .bool (inh), gv], v] w fun e w' => e = .returned (.agg #[.string ⟨((fadG nu inh l).fr).toArray⟩, .int .i64 ((fadG nu inh l).tz), .int .i64 ((fadG nu inh l).st), .int .i64 ((fadG nu inh l).ti)]) ∧ Below w.heap.size w w' := by
  have hat := fun W (h : FdsAt W v l) => r26_at l nu v W h hn0
  have HL := Lib.hid hv
  obtain ⟨p, c, rfl, -, hv1⟩ := hv
  have hv2 := Lib.hid hv1; clear hv1
  have hal := ((Below.refl w.heap.size w).alloc (Nat.le_refl _) (.cells #[.int .i64 nu, .int .i64 pr, .bool (inh), gv] 58)).alloc (by simp) (.cells #[.string ⟨#[]⟩, .int .i64 0, .int .i64 0, .int .i64 0] 24)
  have HB := Lib.hid hal; clear hal
  have hG := (Blk.new w 58 #[.int .i64 nu, .int .i64 pr, .bool (inh), gv]).alloc (.cells #[.string ⟨#[]⟩, .int .i64 0, .int .i64 0, .int .i64 0] 24)
  have HK := Lib.hid hG; clear hG
  obtain ⟨k0, k1, k2, k3, kf0, kf1, kf2, kf3⟩ := HK.out.c4
  have hR := Blk.new (w.alloc (.cells #[.int .i64 nu, .int .i64 pr, .bool (inh), gv] 58)) 24 #[.string ⟨#[]⟩, .int .i64 0, .int .i64 0, .int .i64 0]
  rw [World.size_alloc] at hR
  have HR := Lib.hid hR; clear hR
  obtain ⟨r0, r1, r2, r3, rf0, rf1, rf2, rf3⟩ := HR.out.c4
  have hal := HB.out
  replace HL := Lib.hid (FdsAt.kept HL.out (((Below.refl w.heap.size w).alloc (Nat.le_refl _) (.cells #[.int .i64 nu, .int .i64 pr, .bool (inh), gv] 58)).alloc (by simp) (.cells #[.string ⟨#[]⟩, .int .i64 0, .int .i64 0, .int .i64 0] 24)))
  clear hal
  rcases glide_find nu inh l with ⟨i, hi, e1, e2⟩ | ⟨e1, e2⟩
  · rw [e1] at hat
    rw [e2]
    clear e1 e2
    have h0 : (0 : Int) ≤ (i : Int) := by omega
    have hi2 : (i : Int) < (l.length : Int) := by omega
    have HAT := Lib.hid hat; clear hat
    go_enter Tryz.func150, Tryz.ntmps150
    go_upto_region 3 with (first | (with_reducible refine ((HAT.out _ HL.out).mono ?_); rintro e w' ⟨rfl, hb⟩; replace HK := Lib.hid (HK.out.keep hb); clear k0 k1 k2 k3 kf0 kf1 kf2 kf3; replace HR := Lib.hid (HR.out.keep hb); clear r0 r1 r2 r3 rf0 rf1 rf2 rf3; replace HL := Lib.hid (FdsAt.kept HL.out hb); replace HB := Lib.hid (bch' HB.out hb); clear hb; obtain ⟨k0, k1, k2, k3, kf0, kf1, kf2, kf3⟩ := HK.out.c4; obtain ⟨r0, r1, r2, r3, rf0, rf1, rf2, rf3⟩ := HR.out.c4))
    obtain ⟨b, o, rfl, hb, hC⟩ := hv2.out (fun h => by subst h; simp at hi)
    replace hC : FdsC w b o l := hC
    obtain ⟨x1, x2, x3, x4, x5, x6⟩ := hC.below HB.out hb i hi
    clear hC
    have hbr : b < w'.heap.size := by have := HB.out.size; omega
    go_wp2_with fail
    refine bodyPost_ret_by (v := .agg #[.string ⟨((fdv l i).fr).toArray⟩, .int .i64 ((fdv l i).tz), .int .i64 ((fdv l i).st), .int .i64 ((fdv l i).ti)]) (by simp [results, Tryz.f150, go_sem, r0, r1, r2, r3, rf0, rf1, rf2, rf3]) rfl ⟨rfl, ?_⟩
    exact (((HB.out.setCell (Nat.le_succ _) _).setCell (Nat.le_succ _) _).setCell (Nat.le_succ _) _).setCell (Nat.le_succ _) _
  · rw [e1] at hat
    rw [e2]
    clear e1 e2
    have h0 : ¬ (0 : Int) ≤ (-1 : Int) := by omega
    have hfu := fun W => r3_full W
    have hze := fun W => r3_zero W
    have HAT := Lib.hid hat; clear hat
    have HFU := Lib.hid hfu; clear hfu
    have HZE := Lib.hid hze; clear hze
    cases inh
    · unfold fadD
      simp only [Bool.false_eq_true, if_false]
      go_enter Tryz.func150, Tryz.ntmps150
      go_wp2_with (first | (with_reducible refine ((HAT.out _ HL.out).mono ?_); rintro e w' ⟨rfl, hb⟩; replace HK := Lib.hid (HK.out.keep hb); clear k0 k1 k2 k3 kf0 kf1 kf2 kf3; replace HR := Lib.hid (HR.out.keep hb); clear r0 r1 r2 r3 rf0 rf1 rf2 rf3; replace HL := Lib.hid (FdsAt.kept HL.out hb); replace HB := Lib.hid (bch' HB.out hb); clear hb; obtain ⟨k0, k1, k2, k3, kf0, kf1, kf2, kf3⟩ := HK.out.c4; obtain ⟨r0, r1, r2, r3, rf0, rf1, rf2, rf3⟩ := HR.out.c4) | (with_reducible refine ((HZE.out _).mono ?_); rintro e w' ⟨rfl, hb⟩; replace HK := Lib.hid (HK.out.keep hb); clear k0 k1 k2 k3 kf0 kf1 kf2 kf3; replace HR := Lib.hid (HR.out.keep hb); clear r0 r1 r2 r3 rf0 rf1 rf2 rf3; replace HB := Lib.hid (bch' HB.out hb); clear hb; obtain ⟨k0, k1, k2, k3, kf0, kf1, kf2, kf3⟩ := HK.out.c4; obtain ⟨r0, r1, r2, r3, rf0, rf1, rf2, rf3⟩ := HR.out.c4))
      refine bodyPost_ret_by (v := .agg #[.string ⟨#[48]⟩, .int .i64 0, .int .i64 0, .int .i64 0]) (by simp [results, Tryz.f150, go_sem, r0, r1, r2, r3, rf0, rf1, rf2, rf3]) rfl ⟨rfl, ?_⟩
      exact (((HB.out.setCell (Nat.le_succ _) _).setCell (Nat.le_succ _) _).setCell (Nat.le_succ _) _).setCell (Nat.le_succ _) _
    · unfold fadD
      simp only [if_true]
      go_enter Tryz.func150, Tryz.ntmps150
      go_wp2_with (first | (with_reducible refine ((HAT.out _ HL.out).mono ?_); rintro e w' ⟨rfl, hb⟩; replace HK := Lib.hid (HK.out.keep hb); clear k0 k1 k2 k3 kf0 kf1 kf2 kf3; replace HR := Lib.hid (HR.out.keep hb); clear r0 r1 r2 r3 rf0 rf1 rf2 rf3; replace HL := Lib.hid (FdsAt.kept HL.out hb); replace HB := Lib.hid (bch' HB.out hb); clear hb; obtain ⟨k0, k1, k2, k3, kf0, kf1, kf2, kf3⟩ := HK.out.c4; obtain ⟨r0, r1, r2, r3, rf0, rf1, rf2, rf3⟩ := HR.out.c4) | (with_reducible refine ((HFU.out _).mono ?_); rintro e w' ⟨rfl, hb⟩; replace HK := Lib.hid (HK.out.keep hb); clear k0 k1 k2 k3 kf0 kf1 kf2 kf3; replace HR := Lib.hid (HR.out.keep hb); clear r0 r1 r2 r3 rf0 rf1 rf2 rf3; replace HB := Lib.hid (bch' HB.out hb); clear hb; obtain ⟨k0, k1, k2, k3, kf0, kf1, kf2, kf3⟩ := HK.out.c4; obtain ⟨r0, r1, r2, r3, rf0, rf1, rf2, rf3⟩ := HR.out.c4))
      refine bodyPost_ret_by (v := .agg #[.string ⟨#[54, 53, 53, 51, 53]⟩, .int .i64 65535, .int .i64 0, .int .i64 0]) (by simp [results, Tryz.f150, go_sem, r0, r1, r2, r3, rf0, rf1, rf2, rf3]) rfl ⟨rfl, ?_⟩
      exact (((HB.out.setCell (Nat.le_succ _) _).setCell (Nat.le_succ _) _).setCell (Nat.le_succ _) _).setCell (Nat.le_succ _) _

set_option maxRecDepth 100000 in
set_option maxHeartbeats 4000000 in
theorem r26_shown (nu pr t : Int) (inh : Bool) (l : List Fdr) (gv v : Value) (w : World) (hv : FdsAt w v l) (hn0 : l.length ≤ 1000000) (hf : FacOk l) (hl : ∀ i, i < l.length → (fdv l i).fr.length ≤ 1000) :
    Calls Tryz.prog 102 #[.agg #[.int .i64 nu, .int .i64 pr, .bool (inh), gv], v, .int .i64 t] w fun e w' => e = .returned (.string ⟨(showR (lvlQ nu inh l t)).toArray⟩) ∧ Below w.heap.size w w' := by
  have hgl := fun W (h : FdsAt W v l) => r26_glide nu pr inh l gv v W h hn0
  have HL := Lib.hid hv
  have hof : ∀ W, Calls Tryz.prog 152 #[.agg #[.string ⟨((fadG nu inh l).fr).toArray⟩, .int .i64 ((fadG nu inh l).tz), .int .i64 ((fadG nu inh l).st), .int .i64 ((fadG nu inh l).ti)], .int .i64 t] W fun e w' => e = .returned (.string ⟨(showR (lvlQ nu inh l t)).toArray⟩) ∧ Below W.heap.size W w' := by
    intro W
    have hg := fadG_fg (nu := nu) (inh := inh) hf
    have hlen := fadG_lenK (nu := nu) (inh := inh) hl
    unfold fgE at hg
    obtain ⟨q, e1, e2, hq, h2, h3, h4⟩ := glq hg
    unfold lvlQ fadL
    rw [e2, e1]
    exact r3_of q _ _ _ t W (by rw [← e1]; omega) h2 h3 h4
  have hf1 := Lib.hid hof; clear hof
  generalize showR (lvlQ nu inh l t) = tr at *
  have HGL := Lib.hid hgl; clear hgl
  clear hv hl hf
  have HK := Lib.hid (Blk.new w 58 #[.int .i64 nu, .int .i64 pr, .bool (inh), gv])
  have HB := Lib.hid ((Below.refl w.heap.size w).alloc (Nat.le_refl _) (.cells #[.int .i64 nu, .int .i64 pr, .bool (inh), gv] 58))
  obtain ⟨k0, k1, k2, k3, kf0, kf1, kf2, kf3⟩ := HK.out.c4
  replace HL := Lib.hid (FdsAt.kept HL.out ((Below.refl w.heap.size w).alloc (Nat.le_refl _) (.cells #[.int .i64 nu, .int .i64 pr, .bool (inh), gv] 58)))
  generalize fadG nu inh l = F at *
  go_enter Tryz.func102, Tryz.ntmps102
  go_wp2_with (first | (with_reducible refine ((HGL.out _ HL.out).mono ?_); rintro e w' ⟨rfl, hb⟩; replace HK := Lib.hid (HK.out.keep hb); clear k0 k1 k2 k3 kf0 kf1 kf2 kf3; replace HL := Lib.hid (FdsAt.kept HL.out hb); replace HB := Lib.hid (bch' HB.out hb); clear hb; obtain ⟨k0, k1, k2, k3, kf0, kf1, kf2, kf3⟩ := HK.out.c4) | (with_reducible refine ((hf1.out _).mono ?_); rintro e w' ⟨rfl, hb⟩; replace HK := Lib.hid (HK.out.keep hb); clear k0 k1 k2 k3 kf0 kf1 kf2 kf3; replace HB := Lib.hid (bch' HB.out hb); clear hb; obtain ⟨k0, k1, k2, k3, kf0, kf1, kf2, kf3⟩ := HK.out.c4))
  go_ret
  exact ⟨rfl, HB.out⟩

theorem eql_par (W : World) (a b c d : Int) : (binOp .eql 72 (.agg #[.int .i64 a, .int .i64 b]) (.agg #[.int .i64 c, .int .i64 d])).run Tryz.prog W = .ok (.bool ((a == c) && (b == d))) W := by
  have h1 : Tryz.prog.underlying 72 = some (.struct (Tryz.prog.fieldsOf 72)) := by kernel_rfl
  have h2 : Tryz.prog.stoodInHeld 72 = false := by kernel_rfl
  rw [run_eql_struct, run_equalIn_agg W 9999 _ _ _ h1 h2]
  have hf := TypeDesc.struct.inj (Option.some.inj (h1.symm.trans Tryz.underlying72))
  rw [hf]
  simp [Op.eqFields, go_sem, Tryz.underlying3]
  by_cases e1 : a = c
  · by_cases e2 : b = d
    · simp [e1, e2]
    · simp [e1, e2]
  · simp [e1]

set_option maxRecDepth 100000 in
set_option maxHeartbeats 4000000 in
theorem r26_gain (nu pr ch a : Int) (inh : Bool) (gs : List Gn) (gv : Value) (w : World) (hv : GnsAt w gv gs) (hn0 : gs.length ≤ 1000000) :
    Calls Tryz.prog 155 #[.agg #[.int .i64 nu, .int .i64 pr, .bool (inh), gv], .agg #[.int .i64 ch, .int .i64 a]] w fun e w' => e = .returned (.tuple #[.int .i64 ((gnG gs ch a).getD 0), .bool ((gnG gs ch a).isSome)]) ∧ Below w.heap.size w w' := by
  obtain ⟨p, c, rfl, -, hv1⟩ := hv
  have hv2 := Lib.hid hv1; clear hv1
  have HB := Lib.hid (((Below.refl w.heap.size w).alloc (Nat.le_refl _) (.cells #[.int .i64 nu, .int .i64 pr, .bool (inh), .slice p gs.length c] 58)).alloc (by simp) (.cells #[.int .i64 ch, .int .i64 a] 72))
  have HK := Lib.hid ((Blk.new w 58 #[.int .i64 nu, .int .i64 pr, .bool (inh), .slice p gs.length c]).alloc (.cells #[.int .i64 ch, .int .i64 a] 72))
  obtain ⟨k0, k1, k2, k3, kf0, kf1, kf2, kf3⟩ := HK.out.c4
  have hR := Blk.new (w.alloc (.cells #[.int .i64 nu, .int .i64 pr, .bool (inh), .slice p gs.length c] 58)) 72 #[.int .i64 ch, .int .i64 a]
  rw [World.size_alloc] at hR
  have HP := Lib.hid hR; clear hR
  obtain ⟨p0, p1, pf0, pf1⟩ := HP.out.c2
  go_enter Tryz.func155, Tryz.ntmps155
  go_wp2_with fail
  go_loopw [6] (fun i wr => ∃ k r : Nat, i = .int .i64 (k : Int) ∧ Hid (k + r = gs.length) ∧ Hid (Below w.heap.size w wr) ∧ Hid (Blk wr w.heap.size 58 #[.int .i64 nu, .int .i64 pr, .bool (inh), .slice p gs.length c]) ∧ Hid (Blk wr (w.heap.size + 1) 72 #[.int .i64 ch, .int .i64 a]) ∧ Hid (∀ j, j < k → ¬ ((gnv gs j).ch = ch ∧ (gnv gs j).at_ = a))) (fun i _ => gs.length - (intOf i).toNat)
  case atStart => exact ⟨0, gs.length, rfl, Lib.hid (by omega), HB, HK, HP, Lib.hid (fun j h => absurd h (Nat.not_lt_zero j))⟩
  case round =>
    obtain ⟨k, r, rfl, hkr, HB2, HK2, HP2, HN⟩ := hrel
    clear HB HK HP
    clear k0 k1 k2 k3 kf0 kf1 kf2 kf3
    clear p0 p1 pf0 pf1
    have HB := HB2; have HK := HK2; have HP := HP2; clear HB2 HK2 HP2
    obtain ⟨k0, k1, k2, k3, kf0, kf1, kf2, kf3⟩ := HK.out.c4
    obtain ⟨p0, p1, pf0, pf1⟩ := HP.out.c2
    cases r with
    | zero =>
      have hlt : ¬ (k : Int) < (gs.length : Int) := by have := hkr.out; omega
      have HR := Lib.hid (gnG_no (gs := gs) (ch := ch) (at_ := a) (fun j hj => HN.out j (by have := hkr.out; omega)))
      go_wp2
      go_ret2
      exact ⟨by rw [HR.out]; rfl, HB.out⟩
    | succ r =>
      have hkl : k < gs.length := by have := hkr.out; omega
      have hlt : (k : Int) < (gs.length : Int) := by omega
      obtain ⟨b, o, rfl, hb, hC⟩ := hv2.out (fun h => by subst h; simp at hkl)
      replace hC : GnsC w b o gs := hC
      have HC := Lib.hid hC; clear hC
      have hbr : b < wr.heap.size := by have := HB.out.size; omega
      have hun : IntKind.i64.wrap ((k : Int) + 1) = (k : Int) + 1 := IntWalk.i64_in _ (by omega)
      have hn := fun W => eql_par W (gnv gs k).ch (gnv gs k).at_ ch a
      by_cases e : (gnv gs k).ch = ch ∧ (gnv gs k).at_ = a
      · have HR := Lib.hid (gnG_at (gs := gs) (ch := ch) (at_ := a) hkl e (fun j hj => HN.out j hj))
        have hq : (((gnv gs k).ch == ch) && ((gnv gs k).at_ == a)) = true := by simp [e.1, e.2]
        rw [hq] at hn
        clear e hq
        go_wp2_with fail
        have f3 := fun p : BelowOf _ => (HK.out.keep p.h).c4.2.2.2.1
        have g0 := fun p : BelowOf _ => (HP.out.keep p.h).c2.1
        have g1 := fun p : BelowOf _ => (HP.out.keep p.h).c2.2.1
        have q1 := fun p : BelowOf _ => ((HC.out.below (bch' HB.out p.h) hb) k hkl).1
        have q2 := fun p : BelowOf _ => ((HC.out.below (bch' HB.out p.h) hb) k hkl).2.1
        refine wp_region_WQ (by kernel_rfl) (by kernel_rfl) ?_
        repeat (refine WQ.step (fun K hK => ?_); go_simp; first | (refine hK.out _ ?_; clear hK K) | (apply Exists.intro; refine ⟨fun _ => ?_, hK.out _ ?_⟩; (first | rfl); clear hK K))
        refine WQ.nil ?_
        intro _ hw'
        obtain ⟨⟨wq, hbq⟩, hw2⟩ := hw'
        subst hw2
        replace HK := Lib.hid (HK.out.keep hbq)
        replace HP := Lib.hid (HP.out.keep hbq)
        clear k0 k1 k2 k3 kf0 kf1 kf2 kf3
        clear p0 p1 pf0 pf1
        obtain ⟨k0, k1, k2, k3, kf0, kf1, kf2, kf3⟩ := HK.out.c4
        obtain ⟨p0, p1, pf0, pf1⟩ := HP.out.c2
        replace HB := Lib.hid (bch' HB.out hbq)
        clear f3 g0 g1 q1 q2
        obtain ⟨x1, x2, x3⟩ := HC.out.below HB.out hb k hkl
        have hbr2 := Nat.lt_of_lt_of_le hb HB.out.size
        go_wp2_with fail
        go_ret2
        exact ⟨by rw [HR.out]; rfl, HB.out⟩
      · have hq : (((gnv gs k).ch == ch) && ((gnv gs k).at_ == a)) = false := by
          rw [Bool.and_eq_false_iff, beq_eq_false_iff_ne, beq_eq_false_iff_ne]
          by_cases e1 : (gnv gs k).ch = ch
          · exact .inr fun e2 => e ⟨e1, e2⟩
          · exact .inl e1
        rw [hq] at hn
        have HN2 : Hid (∀ j, j < k + 1 → ¬ ((gnv gs j).ch = ch ∧ (gnv gs j).at_ = a)) := fun j hj => by
          by_cases g : j = k
          · subst g; exact e
          · exact HN.out j (by omega)
        clear e hq
        go_wp2_with fail
        have f3 := fun p : BelowOf _ => (HK.out.keep p.h).c4.2.2.2.1
        have g0 := fun p : BelowOf _ => (HP.out.keep p.h).c2.1
        have g1 := fun p : BelowOf _ => (HP.out.keep p.h).c2.2.1
        have q1 := fun p : BelowOf _ => ((HC.out.below (bch' HB.out p.h) hb) k hkl).1
        have q2 := fun p : BelowOf _ => ((HC.out.below (bch' HB.out p.h) hb) k hkl).2.1
        refine wp_region_WQ (by kernel_rfl) (by kernel_rfl) ?_
        repeat (refine WQ.step (fun K hK => ?_); go_simp; first | (refine hK.out _ ?_; clear hK K) | (apply Exists.intro; refine ⟨fun _ => ?_, hK.out _ ?_⟩; (first | rfl); clear hK K))
        refine WQ.nil ?_
        intro _ hw'
        obtain ⟨⟨wq, hbq⟩, hw2⟩ := hw'
        subst hw2
        replace HK := Lib.hid (HK.out.keep hbq)
        replace HP := Lib.hid (HP.out.keep hbq)
        clear k0 k1 k2 k3 kf0 kf1 kf2 kf3
        clear p0 p1 pf0 pf1
        obtain ⟨k0, k1, k2, k3, kf0, kf1, kf2, kf3⟩ := HK.out.c4
        obtain ⟨p0, p1, pf0, pf1⟩ := HP.out.c2
        replace HB := Lib.hid (bch' HB.out hbq)
        clear f3 g0 g1 q1 q2
        go_wp2_with fail
        go_roundw
        case rel => exact ⟨k + 1, r, by first | rfl | simp, Lib.hid (by have := hkr.out; omega), HB, HK, HP, HN2⟩
        case measure => first | (simp [intOf]; done) | (simp [intOf]; omega)

set_option maxRecDepth 100000 in
set_option maxHeartbeats 8000000 in
theorem r26_scale (nu pr ch t : Int) (inh : Bool) (gs : List Gn) (l : List Fdr) (gv lv : Value) (w : World) (hv : GnsAt w gv gs) (hl : FdsAt w lv l) (hs : SubOk ⟨nu, pr, inh, gs⟩) (hf : FacOk l) (hlen : ∀ i, i < l.length → (fdv l i).fr.length ≤ 60) :
    Calls Tryz.prog 112 #[.agg #[.int .i64 nu, .int .i64 pr, .bool (inh), gv], lv, .int .i64 ch, .int .i64 t] w fun e w' => e = .returned (.string ⟨(showR (sclQ ⟨nu, pr, inh, gs⟩ l ch t)).toArray⟩) ∧ Below w.heap.size w w' := by
  have hga := fun W (h : GnsAt W gv gs) => r26_gain nu pr ch 0 inh gs gv W h (by have := hs.few; dsimp only at this; omega)
  have HL := Lib.hid hl
  have HV := Lib.hid hv
  have HK := Lib.hid (Blk.new w 58 #[.int .i64 nu, .int .i64 pr, .bool (inh), gv])
  have HB := Lib.hid ((Below.refl w.heap.size w).alloc (Nat.le_refl _) (.cells #[.int .i64 nu, .int .i64 pr, .bool (inh), gv] 58))
  obtain ⟨k0, k1, k2, k3, kf0, kf1, kf2, kf3⟩ := HK.out.c4
  have hal := (Below.refl w.heap.size w).alloc (Nat.le_refl _) (.cells #[.int .i64 nu, .int .i64 pr, .bool (inh), gv] 58)
  replace HL := Lib.hid (FdsAt.kept HL.out hal)
  replace HV := Lib.hid (GnsAt.kept HV.out hal)
  clear hal
  cases hg : gnG gs ch 0 with
  | none =>
    rw [hg] at hga
    simp only [Option.getD_none, Option.isSome_none] at hga
    rw [sclQ_no (s := ⟨nu, pr, inh, gs⟩) hg, show showR 1 = [49] by decide +kernel]
    have HGA := Lib.hid hga; clear hga
    go_enter Tryz.func112, Tryz.ntmps112
    go_wp2_with (first | (with_reducible refine ((HGA.out _ HV.out).mono ?_); rintro e w' ⟨rfl, hb⟩; replace HK := Lib.hid (HK.out.keep hb); clear k0 k1 k2 k3 kf0 kf1 kf2 kf3; replace HL := Lib.hid (FdsAt.kept HL.out hb); replace HV := Lib.hid (GnsAt.kept HV.out hb); replace HB := Lib.hid (bch' HB.out hb); clear hb; obtain ⟨k0, k1, k2, k3, kf0, kf1, kf2, kf3⟩ := HK.out.c4))
    go_ret
    exact ⟨rfl, HB.out⟩
  | some g =>
    rw [hg] at hga
    simp only [Option.getD_some, Option.isSome_some] at hga
    cases inh
    · rw [sclQ_add (s := ⟨nu, pr, false, gs⟩) rfl, show showR 1 = [49] by decide +kernel]
      have HGA := Lib.hid hga; clear hga
      go_enter Tryz.func112, Tryz.ntmps112
      go_wp2_with (first | (with_reducible refine ((HGA.out _ HV.out).mono ?_); rintro e w' ⟨rfl, hb⟩; replace HK := Lib.hid (HK.out.keep hb); clear k0 k1 k2 k3 kf0 kf1 kf2 kf3; replace HL := Lib.hid (FdsAt.kept HL.out hb); replace HV := Lib.hid (GnsAt.kept HV.out hb); replace HB := Lib.hid (bch' HB.out hb); clear hb; obtain ⟨k0, k1, k2, k3, kf0, kf1, kf2, kf3⟩ := HK.out.c4))
      go_ret
      exact ⟨rfl, HB.out⟩
    · obtain ⟨g0, g1⟩ := gnG_range (s := ⟨nu, pr, true, gs⟩) hs hg
      rw [sclQ_is (s := ⟨nu, pr, true, gs⟩) hg rfl, ← losQ_ref]
      have fl : Fits 182 (lvlQ nu true l t) := fadL_fits t (fadG_fg (nu := nu) (inh := true) hf) (fadG_len hlen)
      have fg := div65_fits g0 g1
      have f1 := div65_fits (g := 1) (by omega) (by omega)
      have hsh := fun W (h : FdsAt W lv l) => r26_shown nu pr t true l gv lv W h (by have := hf.few; omega) hf (fun i hi => Nat.le_trans (hlen i hi) (by omega))
      have ho1 := fun W => r2_over 1 65535 W (by omega) (by omega) (by omega) (by omega) (by omega)
      have hog := fun W => r2_over g 65535 W (by omega) (by omega) (by omega) (by omega) (by omega)
      have ht1 := fun W => r2_times (lvlQ nu true l t) (Rat.divInt 1 65535) W (fl.mono (by omega)) (f1.mono (by omega))
      have hm1 := fun W => r2_minus 1 (lvlQ nu true l t * Rat.divInt 1 65535) W (fits_1.mono (by omega)) ((fits_mul2 fl f1).mono (by omega))
      have ht2 := fun W => r2_times (Rat.divInt g 65535) (1 - lvlQ nu true l t * Rat.divInt 1 65535) W (fg.mono (by omega)) ((fits_sub2 fits_1 (fits_mul2 fl f1)).mono (by omega))
      have hm2 := fun W => r2_minus 1 (Rat.divInt g 65535 * (1 - lvlQ nu true l t * Rat.divInt 1 65535)) W (fits_1.mono (by omega)) ((fits_mul2 fg (fits_sub2 fits_1 (fits_mul2 fl f1))).mono (by omega))
      rw [show showR 1 = [49] by decide +kernel] at hm1 hm2
      clear fl fg f1 g0 g1 hf hlen hs hl hv
      generalize showR (1 - Rat.divInt g 65535 * (1 - lvlQ nu true l t * Rat.divInt 1 65535)) = t5 at *
      generalize showR (Rat.divInt g 65535 * (1 - lvlQ nu true l t * Rat.divInt 1 65535)) = t4 at *
      generalize showR (1 - lvlQ nu true l t * Rat.divInt 1 65535) = t3 at *
      generalize showR (lvlQ nu true l t * Rat.divInt 1 65535) = t2 at *
      generalize showR (lvlQ nu true l t) = t1 at *
      generalize showR (Rat.divInt 1 65535) = u1 at *
      generalize showR (Rat.divInt g 65535) = u2 at *
      have HGA := Lib.hid hga; clear hga
      have HSH := Lib.hid hsh; clear hsh
      have HO1 := Lib.hid ho1; clear ho1
      have HOG := Lib.hid hog; clear hog
      have HT1 := Lib.hid ht1; clear ht1
      have HM1 := Lib.hid hm1; clear hm1
      have HT2 := Lib.hid ht2; clear ht2
      have HM2 := Lib.hid hm2; clear hm2
      go_enter Tryz.func112, Tryz.ntmps112
      go_wp2_with (first | (with_reducible refine ((HGA.out _ HV.out).mono ?_); rintro e w' ⟨rfl, hb⟩; replace HK := Lib.hid (HK.out.keep hb); clear k0 k1 k2 k3 kf0 kf1 kf2 kf3; replace HL := Lib.hid (FdsAt.kept HL.out hb); replace HV := Lib.hid (GnsAt.kept HV.out hb); replace HB := Lib.hid (bch' HB.out hb); clear hb; obtain ⟨k0, k1, k2, k3, kf0, kf1, kf2, kf3⟩ := HK.out.c4) | (with_reducible refine ((HSH.out _ HL.out).mono ?_); rintro e w' ⟨rfl, hb⟩; replace HK := Lib.hid (HK.out.keep hb); clear k0 k1 k2 k3 kf0 kf1 kf2 kf3; replace HL := Lib.hid (FdsAt.kept HL.out hb); replace HV := Lib.hid (GnsAt.kept HV.out hb); replace HB := Lib.hid (bch' HB.out hb); clear hb; obtain ⟨k0, k1, k2, k3, kf0, kf1, kf2, kf3⟩ := HK.out.c4) | (with_reducible refine ((HO1.out _).mono ?_); rintro e w' ⟨rfl, hb⟩; replace HK := Lib.hid (HK.out.keep hb); clear k0 k1 k2 k3 kf0 kf1 kf2 kf3; replace HL := Lib.hid (FdsAt.kept HL.out hb); replace HV := Lib.hid (GnsAt.kept HV.out hb); replace HB := Lib.hid (bch' HB.out hb); clear hb; obtain ⟨k0, k1, k2, k3, kf0, kf1, kf2, kf3⟩ := HK.out.c4) | (with_reducible refine ((HOG.out _).mono ?_); rintro e w' ⟨rfl, hb⟩; replace HK := Lib.hid (HK.out.keep hb); clear k0 k1 k2 k3 kf0 kf1 kf2 kf3; replace HL := Lib.hid (FdsAt.kept HL.out hb); replace HV := Lib.hid (GnsAt.kept HV.out hb); replace HB := Lib.hid (bch' HB.out hb); clear hb; obtain ⟨k0, k1, k2, k3, kf0, kf1, kf2, kf3⟩ := HK.out.c4) | (with_reducible refine ((HT1.out _).mono ?_); rintro e w' ⟨rfl, hb⟩; replace HK := Lib.hid (HK.out.keep hb); clear k0 k1 k2 k3 kf0 kf1 kf2 kf3; replace HL := Lib.hid (FdsAt.kept HL.out hb); replace HV := Lib.hid (GnsAt.kept HV.out hb); replace HB := Lib.hid (bch' HB.out hb); clear hb; obtain ⟨k0, k1, k2, k3, kf0, kf1, kf2, kf3⟩ := HK.out.c4) | (with_reducible refine ((HM1.out _).mono ?_); rintro e w' ⟨rfl, hb⟩; replace HK := Lib.hid (HK.out.keep hb); clear k0 k1 k2 k3 kf0 kf1 kf2 kf3; replace HL := Lib.hid (FdsAt.kept HL.out hb); replace HV := Lib.hid (GnsAt.kept HV.out hb); replace HB := Lib.hid (bch' HB.out hb); clear hb; obtain ⟨k0, k1, k2, k3, kf0, kf1, kf2, kf3⟩ := HK.out.c4) | (with_reducible refine ((HT2.out _).mono ?_); rintro e w' ⟨rfl, hb⟩; replace HK := Lib.hid (HK.out.keep hb); clear k0 k1 k2 k3 kf0 kf1 kf2 kf3; replace HL := Lib.hid (FdsAt.kept HL.out hb); replace HV := Lib.hid (GnsAt.kept HV.out hb); replace HB := Lib.hid (bch' HB.out hb); clear hb; obtain ⟨k0, k1, k2, k3, kf0, kf1, kf2, kf3⟩ := HK.out.c4) | (with_reducible refine ((HM2.out _).mono ?_); rintro e w' ⟨rfl, hb⟩; replace HK := Lib.hid (HK.out.keep hb); clear k0 k1 k2 k3 kf0 kf1 kf2 kf3; replace HL := Lib.hid (FdsAt.kept HL.out hb); replace HV := Lib.hid (GnsAt.kept HV.out hb); replace HB := Lib.hid (bch' HB.out hb); clear hb; obtain ⟨k0, k1, k2, k3, kf0, kf1, kf2, kf3⟩ := HK.out.c4))
      go_ret
      exact ⟨rfl, HB.out⟩
end Go.Proofs.YtkjelfmgnkkijaaGreatDoor
namespace Lum
open Go Go.RowKit Go.Shelf
open Go.Lib (decDigits itoa)
theorem FdsC.get {W : World} {b o : Nat} {l : List Fdr} (h : FdsC W b o l) {i : Nat} (hi : i < l.length) : W.cell? ⟨b, o + i * 6, none⟩ = some (.int .i64 (fdv l i).su) ∧ W.cell? ⟨b, o + i * 6 + 1, none⟩ = some (.string ⟨(fdv l i).fr.toArray⟩) ∧ W.cell? ⟨b, o + i * 6 + 2, none⟩ = some (.int .i64 (fdv l i).tz) ∧
  W.cell? ⟨b, o + i * 6 + 3, none⟩ = some (.int .i64 (fdv l i).st) ∧ W.cell? ⟨b, o + i * 6 + 4, none⟩ = some (.int .i64 (fdv l i).ti) ∧ W.cell? ⟨b, o + i * 6 + 5, none⟩ = some (.int .i64 (fdv l i).stp) := h i hi
end Lum
namespace Go.Proofs.YtkjelfmgnkkijaaGreatDoor
open Go.RowKit Go.Shelf Lum
open Go.Lib (decDigits itoa)
attribute [local go_sem] bs_get bs_extract_end bs_extract_from bs_extract bs_append

set_option maxRecDepth 100000 in
set_option maxHeartbeats 8000000 in
theorem r26_faders (l : List Fdr) (v : Value) (w : World) (hv : FdsAt w v l) (hf : ∀ i, i < l.length → (fdv l i).fr.length ≤ 1000) :
    Calls Tryz.prog 42 #[v] w fun e w' => e = .returned (.int .i64 (facE l)) ∧ Below w.heap.size w w' := by
  obtain ⟨p, c, rfl, -, hv1⟩ := hv
  have hv2 := Lib.hid hv1; clear hv1
  have hfr := Lib.hid hf; clear hf
  have HB := Lib.hid (Below.refl w.heap.size w)
  by_cases o4 : 16 < l.length
  · have o5 : (16 : Int) < (l.length : Int) := by omega
    rw [facE_many o4]
    go_enter Tryz.func42, Tryz.ntmps42
    go_wp2_with fail
    go_ret
    exact ⟨rfl, HB.out⟩
  · have o5 : ¬ (16 : Int) < (l.length : Int) := by omega
    have hE := facE_few o4
    have HE := Lib.hid hE; clear hE
    go_enter Tryz.func42, Tryz.ntmps42
    go_wp2_with fail
    go_loopw [3] (fun i wr => ∃ k r : Nat, i = .int .i64 (k : Int) ∧ Hid (k + r = l.length) ∧ Hid (Below w.heap.size w wr) ∧ Hid (fuE l r k = fuE l l.length 0)) (fun i _ => l.length - (intOf i).toNat)
    case atStart => exact ⟨0, l.length, rfl, Lib.hid (by omega), HB, Lib.hid rfl⟩
    case round =>
      obtain ⟨k, r, rfl, hkr, HB2, HS⟩ := hrel
      clear HB
      have HB := HB2; clear HB2
      cases r with
      | zero =>
        have hlt : ¬ (k : Int) < (l.length : Int) := by have := hkr.out; omega
        have he : facE l = 0 := by rw [HE.out, ← HS.out]; rfl
        have HE2 := Lib.hid he; clear he
        go_wp2
        go_ret
        exact ⟨by rw [HE2.out]; rfl, HB.out⟩
      | succ r =>
        have hkl : k < l.length := by have := hkr.out; omega
        have hlt : (k : Int) < (l.length : Int) := by omega
        obtain ⟨b, o, rfl, hb, hC⟩ := hv2.out (fun h => by subst h; simp at hkl)
        replace hC : FdsC w b o l := hC
        have HC := Lib.hid hC; clear hC
        obtain ⟨x1, x2, x3, x4, x5, x6⟩ := HC.out.below HB.out hb k hkl
        have hbr : b < wr.heap.size := by have := HB.out.size; omega
        have hun : IntKind.i64.wrap ((k : Int) + 1) = (k : Int) + 1 := IntWalk.i64_in _ (by omega)
        have hck := fun W => r3_check (fdv l k).fr (fdv l k).tz (fdv l k).st (fdv l k).ti W (hfr.out k hkl)
        change ∀ W, Calls _ _ _ W (fun e w' => e = .returned (.int .i64 (fgE (fdv l k))) ∧ _) at hck
        have hti := fun W => r3_time (fdv l k).stp W
        have hlS : ∀ h : 0 < k, lastF l k = (fdv l (k - 1)).su := fun h => by unfold lastF; rw [if_neg (by omega)]
        by_cases o0 : (fdv l k).su < 1
        · have he : facE l = 2 := by rw [HE.out, ← HS.out, fuE_su (by omega)]
          have HE2 := Lib.hid he; clear he HS HE hlS
          have HCK := Lib.hid hck; clear hck
          have HTI := Lib.hid hti; clear hti
          go_wp2_with (first | (with_reducible refine ((HCK.out _).mono ?_); rintro e w' ⟨rfl, hb⟩; replace HB := Lib.hid (bch' HB.out hb); clear hb; clear x1 x2 x3 x4 x5 x6; obtain ⟨x1, x2, x3, x4, x5, x6⟩ := (HC.out.below HB.out hb).get hkl) | (with_reducible refine ((HTI.out _).mono ?_); rintro e w' ⟨rfl, rfl⟩))
          go_ret
          exact ⟨by rw [HE2.out]; rfl, HB.out⟩
        by_cases o1 : 1048576 < (fdv l k).su
        · have he : facE l = 2 := by rw [HE.out, ← HS.out, fuE_su (by omega)]
          have HE2 := Lib.hid he; clear he HS HE hlS
          have HCK := Lib.hid hck; clear hck
          have HTI := Lib.hid hti; clear hti
          go_wp2_with (first | (with_reducible refine ((HCK.out _).mono ?_); rintro e w' ⟨rfl, hb⟩; replace HB := Lib.hid (bch' HB.out hb); clear hb; clear x1 x2 x3 x4 x5 x6; obtain ⟨x1, x2, x3, x4, x5, x6⟩ := (HC.out.below HB.out hb).get hkl) | (with_reducible refine ((HTI.out _).mono ?_); rintro e w' ⟨rfl, rfl⟩))
          go_ret
          exact ⟨by rw [HE2.out]; rfl, HB.out⟩
        have c0 : ¬ ((fdv l k).su < 1 ∨ 1048576 < (fdv l k).su) := by omega
        by_cases c1 : fgE (fdv l k) = 0
        · rw [c1] at hck
          by_cases c2 : (fdv l k).stp < 0 ∨ 10000000 < (fdv l k).stp
          · rw [decide_eq_false (by omega)] at hti
            have he : facE l = 2 := by rw [HE.out, ← HS.out, fuE_stp c0 c1 c2]
            have HE2 := Lib.hid he; clear he HS HE hlS
            have HCK := Lib.hid hck; clear hck
            have HTI := Lib.hid hti; clear hti
            go_wp2_with (first | (with_reducible refine ((HCK.out _).mono ?_); rintro e w' ⟨rfl, hb⟩; replace HB := Lib.hid (bch' HB.out hb); clear hb; clear x1 x2 x3 x4 x5 x6; obtain ⟨x1, x2, x3, x4, x5, x6⟩ := (HC.out.below HB.out hb).get hkl) | (with_reducible refine ((HTI.out _).mono ?_); rintro e w' ⟨rfl, rfl⟩))
            go_ret
            exact ⟨by rw [HE2.out]; rfl, HB.out⟩
          · rw [decide_eq_true (by omega)] at hti
            by_cases hk0 : 0 < k
            · have hk1 : k - 1 < l.length := by omega
              have hg0 : decide (0 < k) = true := decide_eq_true hk0
              have hgi : (0 : Int) < (k : Int) := by omega
              have hm1 : IntKind.i64.wrap ((k : Int) - 1) = ((k - 1 : Nat) : Int) := by rw [IntWalk.i64_in _ (by omega)]; omega
              by_cases c3 : (fdv l k).su ≤ lastF l k
              · have c4 : decide ((fdv l k).su ≤ (fdv l (k - 1)).su) = true := decide_eq_true (by rw [← hlS hk0]; exact c3)
                have he : facE l = 9 := by rw [HE.out, ← HS.out, fuE_ord c0 c1 c2 c3]
                have HE2 := Lib.hid he; clear he HS HE c1 c2 c3 c0 hlS
                have HCK := Lib.hid hck; clear hck
                have HTI := Lib.hid hti; clear hti
                go_wp2_with (first | (with_reducible refine ((HCK.out _).mono ?_); rintro e w' ⟨rfl, hb⟩; replace HB := Lib.hid (bch' HB.out hb); clear hb; clear x1 x2 x3 x4 x5 x6; obtain ⟨x1, x2, x3, x4, x5, x6⟩ := (HC.out.below HB.out hb).get hkl) | (with_reducible refine ((HTI.out _).mono ?_); rintro e w' ⟨rfl, rfl⟩))
                have r1 := fun p : BelowOf _ => ((HC.out.below (bch' HB.out p.h) hb) k hkl).1
                have r2 := fun p : BelowOf _ => ((HC.out.below (bch' HB.out p.h) hb) (k - 1) hk1).1
                refine wp_region_WQ (by kernel_rfl) (by kernel_rfl) ?_
                repeat (refine WQ.step (fun K hK => ?_); go_simp; first | (refine hK.out _ ?_; clear hK K) | (apply Exists.intro; refine ⟨fun _ => ?_, hK.out _ ?_⟩; (first | rfl); clear hK K))
                refine WQ.nil ?_
                intro _ hw'
                obtain ⟨⟨wq, hbq⟩, hw2⟩ := hw'
                subst hw2
                replace HB := Lib.hid (bch' HB.out hbq)
                clear r1 r2
                go_wp2_with fail
                go_ret
                exact ⟨by rw [HE2.out]; rfl, HB.out⟩
              · have c4 : decide ((fdv l k).su ≤ (fdv l (k - 1)).su) = false := decide_eq_false (by rw [← hlS hk0]; exact c3)
                have HF : Hid (fuE l r (k + 1) = fuE l l.length 0) := by show _ = _; rw [← HS.out, fuE_go c0 c1 c2 c3]
                clear HS HE c1 c2 c3 c0 hlS
                have HCK := Lib.hid hck; clear hck
                have HTI := Lib.hid hti; clear hti
                go_wp2_with (first | (with_reducible refine ((HCK.out _).mono ?_); rintro e w' ⟨rfl, hb⟩; replace HB := Lib.hid (bch' HB.out hb); clear hb; clear x1 x2 x3 x4 x5 x6; obtain ⟨x1, x2, x3, x4, x5, x6⟩ := (HC.out.below HB.out hb).get hkl) | (with_reducible refine ((HTI.out _).mono ?_); rintro e w' ⟨rfl, rfl⟩))
                have r1 := fun p : BelowOf _ => ((HC.out.below (bch' HB.out p.h) hb) k hkl).1
                have r2 := fun p : BelowOf _ => ((HC.out.below (bch' HB.out p.h) hb) (k - 1) hk1).1
                refine wp_region_WQ (by kernel_rfl) (by kernel_rfl) ?_
                repeat (refine WQ.step (fun K hK => ?_); go_simp; first | (refine hK.out _ ?_; clear hK K) | (apply Exists.intro; refine ⟨fun _ => ?_, hK.out _ ?_⟩; (first | rfl); clear hK K))
                refine WQ.nil ?_
                intro _ hw'
                obtain ⟨⟨wq, hbq⟩, hw2⟩ := hw'
                subst hw2
                replace HB := Lib.hid (bch' HB.out hbq)
                clear r1 r2
                go_wp2_with fail
                go_roundw
                case rel => exact ⟨k + 1, r, by first | rfl | simp, Lib.hid (by have := hkr.out; omega), HB, HF⟩
                case measure => first | (simp [intOf]; done) | (simp [intOf]; omega)
            · obtain rfl : k = 0 := by omega
              by_cases c3 : (fdv l 0).su ≤ lastF l 0
              · exact absurd c3 (by rw [lastF_zero]; omega)
              · have HF : Hid (fuE l r (0 + 1) = fuE l l.length 0) := by show _ = _; rw [← HS.out, fuE_go c0 c1 c2 c3]
                clear HS HE c1 c2 c3 c0 hlS
                simp only [Nat.zero_mul, Nat.add_zero] at x1 x2 x3 x4 x5 x6
                have HCK := Lib.hid hck; clear hck
                have HTI := Lib.hid hti; clear hti
                go_wp2_with (first | (with_reducible refine ((HCK.out _).mono ?_); rintro e w' ⟨rfl, hb⟩; replace HB := Lib.hid (bch' HB.out hb); clear hb; clear x1 x2 x3 x4 x5 x6; obtain ⟨x1, x2, x3, x4, x5, x6⟩ := (HC.out.below HB.out hb).get hkl) | (with_reducible refine ((HTI.out _).mono ?_); rintro e w' ⟨rfl, rfl⟩))
                refine wp_region_WQ (by kernel_rfl) (by kernel_rfl) ?_
                repeat (refine WQ.step (fun K hK => ?_); go_simp; first | (refine hK.out _ ?_; clear hK K) | (apply Exists.intro; refine ⟨fun _ => ?_, hK.out _ ?_⟩; (first | rfl); clear hK K))
                refine WQ.nil ?_
                intro _ hw'
                obtain ⟨⟨wq, hbq⟩, hw2⟩ := hw'
                subst hw2
                replace HB := Lib.hid (bch' HB.out hbq)
                go_wp2_with fail
                go_roundw
                case rel => exact ⟨0 + 1, r, by first | rfl | simp, Lib.hid (by have := hkr.out; omega), HB, HF⟩
                case measure => first | (simp [intOf]; done) | (simp [intOf]; omega)
        · have he : facE l = fgE (fdv l k) := by rw [HE.out, ← HS.out, fuE_gl c0 c1]
          have HE2 := Lib.hid he; clear he HS HE c0 hlS
          have hne : ((fgE (fdv l k) : Int) != 0) = true := by simpa using c1
          generalize fgE (fdv l k) = m at *
          have HCK := Lib.hid hck; clear hck
          have HTI := Lib.hid hti; clear hti
          go_wp2_with (first | (with_reducible refine ((HCK.out _).mono ?_); rintro e w' ⟨rfl, hb⟩; replace HB := Lib.hid (bch' HB.out hb); clear hb; clear x1 x2 x3 x4 x5 x6; obtain ⟨x1, x2, x3, x4, x5, x6⟩ := (HC.out.below HB.out hb).get hkl) | (with_reducible refine ((HTI.out _).mono ?_); rintro e w' ⟨rfl, rfl⟩))
          go_ret
          exact ⟨by rw [HE2.out]; rfl, HB.out⟩
end Go.Proofs.YtkjelfmgnkkijaaGreatDoor
