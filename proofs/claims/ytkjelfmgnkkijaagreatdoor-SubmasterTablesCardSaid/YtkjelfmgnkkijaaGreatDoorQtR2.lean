/-
  The reference of the layers 15 and 26: Check, Table. The reference of layer 26: At, Place, glide, Shown, Gain, Scale, Few, FewFaders. The reference of layer 26: Faders.
-/
import Derived.Test.YtkjelfmgnkkijaaGreatDoorSp
import Derived.Test.YtkjelfmgnkkijaaGreatDoorGl
import Derived.Test.YtkjelfmgnkkijaaGreatDoorQq
import Derived.Deep.DeepCutAuto
import Derived.Deep.Cut
import Derived.Laws.StructEq
set_option linter.unusedVariables false
set_option linter.unusedSimpArgs false
namespace Go.Proofs.YtkjelfmgnkkijaaGreatDoor
open Go.RowKit Go.Shelf Lum
open Go.Lib (decDigits itoa)
attribute [local go_sem] bs_get bs_extract_end bs_extract_from bs_extract bs_append

set_option maxRecDepth 100000 in
set_option maxHeartbeats 2000000 in
theorem r15_param (ch at_ : Int) (w : World) :
    Calls Tryz.prog 106 #[.agg #[.int .i64 ch, .int .i64 at_]] w fun e w' => e = .returned (.int .i64 (parE ch at_)) ∧ Below w.heap.size w w' := by
  have HK := Lib.hid (Blk.new w 72 #[.int .i64 ch, .int .i64 at_])
  have HB := Lib.hid ((Below.refl w.heap.size w).alloc (Nat.le_refl _) (.cells #[.int .i64 ch, .int .i64 at_] 72))
  obtain ⟨k0, k1, kf0, kf1⟩ := HK.out.c2
  by_cases o0 : ch < 1
  · rw [parE_out (by omega)]
    go_enter Tryz.func106, Tryz.ntmps106
    go_wp2_with fail
    go_ret
    exact ⟨rfl, HB.out⟩
  by_cases o1 : 999 < ch
  · rw [parE_out (by omega)]
    go_enter Tryz.func106, Tryz.ntmps106
    go_wp2_with fail
    go_ret
    exact ⟨rfl, HB.out⟩
  by_cases o2 : at_ < 0
  · rw [parE_out (by omega)]
    go_enter Tryz.func106, Tryz.ntmps106
    go_wp2_with fail
    go_ret
    exact ⟨rfl, HB.out⟩
  by_cases o3 : 15 ≤ at_
  · rw [parE_out (by omega)]
    go_enter Tryz.func106, Tryz.ntmps106
    go_wp2_with fail
    go_ret
    exact ⟨rfl, HB.out⟩
  rw [parE_in (by omega)]
  go_enter Tryz.func106, Tryz.ntmps106
  go_wp2_with fail
  go_ret
  exact ⟨rfl, HB.out⟩

theorem r15_islevel (v : Int) (w : World) :
    Calls Tryz.prog 113 #[.int .i64 v] w fun e w' => e = .returned (.bool (decide (0 ≤ v ∧ v ≤ 65535))) ∧ w = w' := by
  by_cases h1 : 0 ≤ v
  · by_cases h2 : v ≤ 65535
    · rw [decide_eq_true (⟨h1, h2⟩ : 0 ≤ v ∧ v ≤ 65535)]
      go_enter Tryz.func113, Tryz.ntmps113
      go_wp2
      go_ret
      exact ⟨rfl, rfl⟩
    · rw [decide_eq_false (fun h => h2 h.2 : ¬ (0 ≤ v ∧ v ≤ 65535))]
      go_enter Tryz.func113, Tryz.ntmps113
      go_wp2
      go_ret
      exact ⟨rfl, rfl⟩
  · rw [decide_eq_false (fun h => h1 h.1 : ¬ (0 ≤ v ∧ v ≤ 65535))]
    go_enter Tryz.func113, Tryz.ntmps113
    go_wp2
    go_ret
    exact ⟨rfl, rfl⟩

set_option maxRecDepth 100000 in
set_option maxHeartbeats 2000000 in
theorem r15_before (c a d b : Int) (w : World) :
    Calls Tryz.prog 114 #[.agg #[.int .i64 c, .int .i64 a], .agg #[.int .i64 d, .int .i64 b]] w fun e w' => e = .returned (.bool (decide (befP c a d b))) ∧ Below w.heap.size w w' := by
  have hal := ((Below.refl w.heap.size w).alloc (Nat.le_refl _) (.cells #[.int .i64 c, .int .i64 a] 72)).alloc (by simp) (.cells #[.int .i64 d, .int .i64 b] 72)
  have HB := Lib.hid hal; clear hal
  by_cases h1 : c < d
  · rw [show decide (befP c a d b) = true from decide_eq_true (.inl h1)]
    go_enter Tryz.func114, Tryz.ntmps114
    go_wp2_with fail
    go_ret
    exact ⟨rfl, HB.out⟩
  · by_cases h2 : c = d
    · by_cases h3 : a < b
      · rw [show decide (befP c a d b) = true from decide_eq_true (.inr ⟨h2, h3⟩)]
        have h2b : ((c : Int) == d) = true := by simpa using h2
        clear h2
        go_enter Tryz.func114, Tryz.ntmps114
        go_wp2_with fail
        go_ret
        exact ⟨rfl, HB.out⟩
      · rw [show decide (befP c a d b) = false from decide_eq_false (by unfold befP; omega)]
        have h2b : ((c : Int) == d) = true := by simpa using h2
        clear h2
        go_enter Tryz.func114, Tryz.ntmps114
        go_wp2_with fail
        go_ret
        exact ⟨rfl, HB.out⟩
    · rw [show decide (befP c a d b) = false from decide_eq_false (by unfold befP; omega)]
      have h2b : ((c : Int) == d) = false := by simpa using h2
      go_enter Tryz.func114, Tryz.ntmps114
      go_wp2_with fail
      go_ret
      exact ⟨rfl, HB.out⟩

set_option maxRecDepth 100000 in
set_option maxHeartbeats 8000000 in
theorem r26_check (nu pr : Int) (inh : Bool) (gs : List Gn) (gv : Value) (w : World) (hv : GnsAt w gv gs) :
    Calls Tryz.prog 41 #[.agg #[.int .i64 nu, .int .i64 pr, .bool (inh), gv]] w fun e w' => e = .returned (.int .i64 (subE nu pr inh gs)) ∧ Below w.heap.size w w' := by
  obtain ⟨p, c, rfl, -, hv1⟩ := hv
  have hv2 := Lib.hid hv1; clear hv1
  have HK := Lib.hid (Blk.new w 58 #[.int .i64 nu, .int .i64 pr, .bool (inh), .slice p gs.length c])
  have HB := Lib.hid ((Below.refl w.heap.size w).alloc (Nat.le_refl _) (.cells #[.int .i64 nu, .int .i64 pr, .bool (inh), .slice p gs.length c] 58))
  obtain ⟨k0, k1, k2, k3, kf0, kf1, kf2, kf3⟩ := HK.out.c4
  by_cases o0 : nu < 1
  · rw [subE_num (by omega)]
    go_enter Tryz.func41, Tryz.ntmps41
    go_wp2_with fail
    go_ret
    exact ⟨rfl, HB.out⟩
  by_cases o1 : 1048576 < nu
  · rw [subE_num (by omega)]
    go_enter Tryz.func41, Tryz.ntmps41
    go_wp2_with fail
    go_ret
    exact ⟨rfl, HB.out⟩
  by_cases o2 : pr < 0
  · rw [subE_num (by omega)]
    go_enter Tryz.func41, Tryz.ntmps41
    go_wp2_with fail
    go_ret
    exact ⟨rfl, HB.out⟩
  by_cases o3 : 9 < pr
  · rw [subE_num (by omega)]
    go_enter Tryz.func41, Tryz.ntmps41
    go_wp2_with fail
    go_ret
    exact ⟨rfl, HB.out⟩
  have on : ¬ (nu < 1 ∨ 1048576 < nu ∨ pr < 0 ∨ 9 < pr) := by omega
  by_cases o4 : 128 < gs.length
  · have o5 : (128 : Int) < (gs.length : Int) := by omega
    rw [subE_many on o4]
    clear on
    go_enter Tryz.func41, Tryz.ntmps41
    go_wp2_with fail
    go_ret
    exact ⟨rfl, HB.out⟩
  · have o5 : ¬ (128 : Int) < (gs.length : Int) := by omega
    have hE := subE_gs (inh := inh) on o4
    have HE := Lib.hid hE; clear hE on
    go_enter Tryz.func41, Tryz.ntmps41
    go_wp2_with fail
    go_loopw [3] (fun i wr => ∃ k r : Nat, i = .int .i64 (k : Int) ∧ Hid (k + r = gs.length) ∧ Hid (Below w.heap.size w wr) ∧ Hid (Blk wr w.heap.size 58 #[.int .i64 nu, .int .i64 pr, .bool inh, .slice p gs.length c]) ∧ Hid (gaE inh gs r k = gaE inh gs gs.length 0)) (fun i _ => gs.length - (intOf i).toNat)
    case atStart => exact ⟨0, gs.length, rfl, Lib.hid (by omega), HB, HK, Lib.hid rfl⟩
    case round =>
      obtain ⟨k, r, rfl, hkr, HB2, HK2, HS⟩ := hrel
      clear HB HK k0 k1 k2 k3 kf0 kf1 kf2 kf3
      have HB := HB2; have HK := HK2; clear HB2 HK2
      obtain ⟨k0, k1, k2, k3, kf0, kf1, kf2, kf3⟩ := HK.out.c4
      cases r with
      | zero =>
        have hlt : ¬ (k : Int) < (gs.length : Int) := by have := hkr.out; omega
        have he : subE nu pr inh gs = 0 := by rw [HE.out, ← HS.out]; rfl
        have HE2 := Lib.hid he; clear he
        go_wp2
        go_ret
        exact ⟨by rw [HE2.out]; rfl, HB.out⟩
      | succ r =>
        have hkl : k < gs.length := by have := hkr.out; omega
        have hlt : (k : Int) < (gs.length : Int) := by omega
        obtain ⟨b, o, rfl, hb, hC⟩ := hv2.out (fun h => by subst h; simp at hkl)
        have HC := Lib.hid hC; clear hC
        replace HC : Hid (GnsC w b o gs) := HC
        obtain ⟨x1, x2, x3⟩ := HC.out.below HB.out hb k hkl
        have hbr : b < wr.heap.size := by have := HB.out.size; omega
        have hun : IntKind.i64.wrap ((k : Int) + 1) = (k : Int) + 1 := IntWalk.i64_in _ (by omega)
        have hpa := fun W => r15_param (gnv gs k).ch (gnv gs k).at_ W
        have hle := fun W => r15_islevel (gnv gs k).lev W
        have hG := Blk.new wr 85 #[.int .i64 (gnv gs k).ch, .int .i64 (gnv gs k).at_, .int .i64 (gnv gs k).lev]
        have HG := Lib.hid hG; clear hG
        replace HB := Lib.hid (HB.out.alloc HB.out.size (.cells #[.int .i64 (gnv gs k).ch, .int .i64 (gnv gs k).at_, .int .i64 (gnv gs k).lev] 85))
        have HJ := Lib.hid (HK.out.alloc (.cells #[.int .i64 (gnv gs k).ch, .int .i64 (gnv gs k).at_, .int .i64 (gnv gs k).lev] 85))
        obtain ⟨j0, j1, j2, j3, jf0, jf1, jf2, jf3⟩ := HJ.out.c4
        obtain ⟨g0, g1, g2, gf0, gf1, gf2⟩ := HG.out.c3
        by_cases c1 : parE (gnv gs k).ch (gnv gs k).at_ = 0
        · rw [c1] at hpa
          by_cases c2 : (gnv gs k).lev < 0 ∨ 65535 < (gnv gs k).lev
          · rw [decide_eq_false (by omega)] at hle
            have he : subE nu pr inh gs = 2 := by rw [HE.out, ← HS.out, gaE_lev c1 c2]
            have HE2 := Lib.hid he; clear he c1 c2 HS HE
            have HPA := Lib.hid hpa; clear hpa
            have HLE := Lib.hid hle; clear hle
            go_wp2_with (first | (with_reducible refine ((HPA.out _).mono ?_); rintro e w' ⟨rfl, hb⟩; replace HJ := Lib.hid (HJ.out.keep hb); clear j0 j1 j2 j3 jf0 jf1 jf2 jf3; replace HG := Lib.hid (HG.out.keep hb); clear g0 g1 g2 gf0 gf1 gf2; replace HB := Lib.hid (bch' HB.out hb); clear hb; obtain ⟨j0, j1, j2, j3, jf0, jf1, jf2, jf3⟩ := HJ.out.c4; obtain ⟨g0, g1, g2, gf0, gf1, gf2⟩ := HG.out.c3) | (with_reducible refine ((HLE.out _).mono ?_); rintro e w' ⟨rfl, rfl⟩))
            go_ret
            exact ⟨by rw [HE2.out]; rfl, HB.out⟩
          · rw [decide_eq_true (by omega)] at hle
            by_cases c3 : inh = true ∧ (gnv gs k).at_ ≠ 0
            · have he : subE nu pr inh gs = 11 := by rw [HE.out, ← HS.out, gaE_use c1 c2 c3]
              have HE2 := Lib.hid he; clear he c1 HS HE c2
              obtain ⟨rfl, c4⟩ := c3
              have c5 : (((gnv gs k).at_ : Int) != 0) = true := by simpa using c4
              clear c4
              have HPA := Lib.hid hpa; clear hpa
              have HLE := Lib.hid hle; clear hle
              go_wp2_with (first | (with_reducible refine ((HPA.out _).mono ?_); rintro e w' ⟨rfl, hb⟩; replace HJ := Lib.hid (HJ.out.keep hb); clear j0 j1 j2 j3 jf0 jf1 jf2 jf3; replace HG := Lib.hid (HG.out.keep hb); clear g0 g1 g2 gf0 gf1 gf2; replace HB := Lib.hid (bch' HB.out hb); clear hb; obtain ⟨j0, j1, j2, j3, jf0, jf1, jf2, jf3⟩ := HJ.out.c4; obtain ⟨g0, g1, g2, gf0, gf1, gf2⟩ := HG.out.c3) | (with_reducible refine ((HLE.out _).mono ?_); rintro e w' ⟨rfl, rfl⟩))
              go_ret
              exact ⟨by rw [HE2.out]; rfl, HB.out⟩
            · have c4 : inh = false ∨ (inh = true ∧ (((gnv gs k).at_ : Int) != 0) = false) := by
                cases inh
                · exact .inl rfl
                · exact .inr ⟨rfl, by simpa using fun h => c3 ⟨rfl, h⟩⟩
              by_cases hk0 : 0 < k
              · have hk1 : k - 1 < gs.length := by omega
                have hg0 : decide (0 < k) = true := decide_eq_true hk0
                have hgi : (0 : Int) < (k : Int) := by omega
                have hm1 : IntKind.i64.wrap ((k : Int) - 1) = ((k - 1 : Nat) : Int) := by rw [IntWalk.i64_in _ (by omega)]; omega
                have hcm := fun W => r15_before (gnv gs (k - 1)).ch (gnv gs (k - 1)).at_ (gnv gs k).ch (gnv gs k).at_ W
                by_cases c5 : befP (gnv gs (k - 1)).ch (gnv gs (k - 1)).at_ (gnv gs k).ch (gnv gs k).at_
                · have HF : Hid (gaE inh gs r (k + 1) = gaE inh gs gs.length 0) := by show _ = _; rw [← HS.out, gaE_go c1 c2 c3 (fun h => h.2 c5)]
                  clear HS HE
                  rw [decide_eq_true c5] at hcm
                  clear c1 c2 c3
                  clear c5
                  have HPA := Lib.hid hpa; clear hpa
                  have HLE := Lib.hid hle; clear hle
                  have HCM := Lib.hid hcm; clear hcm
                  rcases c4 with rfl | ⟨rfl, c6⟩
                  all_goals
                    go_wp2_with (first | (with_reducible refine ((HPA.out _).mono ?_); rintro e w' ⟨rfl, hb⟩; replace HJ := Lib.hid (HJ.out.keep hb); clear j0 j1 j2 j3 jf0 jf1 jf2 jf3; replace HG := Lib.hid (HG.out.keep hb); clear g0 g1 g2 gf0 gf1 gf2; replace HB := Lib.hid (bch' HB.out hb); clear hb; obtain ⟨j0, j1, j2, j3, jf0, jf1, jf2, jf3⟩ := HJ.out.c4; obtain ⟨g0, g1, g2, gf0, gf1, gf2⟩ := HG.out.c3) | (with_reducible refine ((HLE.out _).mono ?_); rintro e w' ⟨rfl, rfl⟩))
                    have f0 := fun p : BelowOf _ => (HJ.out.keep p.h).c4.1
                    have f1 := fun p : BelowOf _ => (HJ.out.keep p.h).c4.2.1
                    have f2 := fun p : BelowOf _ => (HJ.out.keep p.h).c4.2.2.1
                    have f3 := fun p : BelowOf _ => (HJ.out.keep p.h).c4.2.2.2.1
                    have g0q := fun p : BelowOf _ => (HG.out.keep p.h).c3.1
                    have g1q := fun p : BelowOf _ => (HG.out.keep p.h).c3.2.1
                    have g2q := fun p : BelowOf _ => (HG.out.keep p.h).c3.2.2.1
                    have r1 := fun p : BelowOf _ => ((HC.out.below (bch' HB.out p.h) hb) (k - 1) hk1).1
                    have r2 := fun p : BelowOf _ => ((HC.out.below (bch' HB.out p.h) hb) (k - 1) hk1).2.1
                    refine wp_region_WQ (by kernel_rfl) (by kernel_rfl) ?_
                    repeat (refine WQ.step (fun K hK => ?_); go_simp; first | (refine hK.out _ ?_; clear hK K) | (apply Exists.intro; refine ⟨fun _ => ?_, hK.out _ ?_⟩; (first | rfl | (go_at_call 114; exact calls_below_of _ (HCM.out _))); clear hK K))
                    refine WQ.nil ?_
                    intro _ hw'
                    obtain ⟨⟨wq, hbq⟩, hw2⟩ := hw'
                    subst hw2
                    replace HJ := Lib.hid (HJ.out.keep hbq)
                    replace HB := Lib.hid (bch' HB.out hbq)
                    clear f0 f1 f2 f3 g0q g1q g2q r1 r2
                    go_wp2_with fail
                    go_roundw
                    case rel => exact ⟨k + 1, r, by first | rfl | simp, Lib.hid (by have := hkr.out; omega), HB, HJ, HF⟩
                    case measure => first | (simp [intOf]; done) | (simp [intOf]; omega)
                · have he : subE nu pr inh gs = 9 := by rw [HE.out, ← HS.out, gaE_ord c1 c2 c3 ⟨hk0, c5⟩]
                  have HE2 := Lib.hid he; clear he
                  rw [decide_eq_false c5] at hcm
                  clear c1 c2 c3
                  clear c5 HS HE
                  have HPA := Lib.hid hpa; clear hpa
                  have HLE := Lib.hid hle; clear hle
                  have HCM := Lib.hid hcm; clear hcm
                  rcases c4 with rfl | ⟨rfl, c6⟩
                  all_goals
                    go_wp2_with (first | (with_reducible refine ((HPA.out _).mono ?_); rintro e w' ⟨rfl, hb⟩; replace HJ := Lib.hid (HJ.out.keep hb); clear j0 j1 j2 j3 jf0 jf1 jf2 jf3; replace HG := Lib.hid (HG.out.keep hb); clear g0 g1 g2 gf0 gf1 gf2; replace HB := Lib.hid (bch' HB.out hb); clear hb; obtain ⟨j0, j1, j2, j3, jf0, jf1, jf2, jf3⟩ := HJ.out.c4; obtain ⟨g0, g1, g2, gf0, gf1, gf2⟩ := HG.out.c3) | (with_reducible refine ((HLE.out _).mono ?_); rintro e w' ⟨rfl, rfl⟩))
                    have f0 := fun p : BelowOf _ => (HJ.out.keep p.h).c4.1
                    have f1 := fun p : BelowOf _ => (HJ.out.keep p.h).c4.2.1
                    have f2 := fun p : BelowOf _ => (HJ.out.keep p.h).c4.2.2.1
                    have f3 := fun p : BelowOf _ => (HJ.out.keep p.h).c4.2.2.2.1
                    have g0q := fun p : BelowOf _ => (HG.out.keep p.h).c3.1
                    have g1q := fun p : BelowOf _ => (HG.out.keep p.h).c3.2.1
                    have g2q := fun p : BelowOf _ => (HG.out.keep p.h).c3.2.2.1
                    have r1 := fun p : BelowOf _ => ((HC.out.below (bch' HB.out p.h) hb) (k - 1) hk1).1
                    have r2 := fun p : BelowOf _ => ((HC.out.below (bch' HB.out p.h) hb) (k - 1) hk1).2.1
                    refine wp_region_WQ (by kernel_rfl) (by kernel_rfl) ?_
                    repeat (refine WQ.step (fun K hK => ?_); go_simp; first | (refine hK.out _ ?_; clear hK K) | (apply Exists.intro; refine ⟨fun _ => ?_, hK.out _ ?_⟩; (first | rfl | (go_at_call 114; exact calls_below_of _ (HCM.out _))); clear hK K))
                    refine WQ.nil ?_
                    intro _ hw'
                    obtain ⟨⟨wq, hbq⟩, hw2⟩ := hw'
                    subst hw2
                    replace HJ := Lib.hid (HJ.out.keep hbq)
                    replace HB := Lib.hid (bch' HB.out hbq)
                    clear f0 f1 f2 f3 g0q g1q g2q r1 r2
                    go_wp2_with fail
                    go_ret
                    exact ⟨by rw [HE2.out]; rfl, HB.out⟩
              · have HF : Hid (gaE inh gs r (k + 1) = gaE inh gs gs.length 0) := by show _ = _; rw [← HS.out, gaE_go c1 c2 c3 (fun h => hk0 h.1)]
                clear HS HE
                obtain rfl : k = 0 := by omega
                clear c1 c2 c3
                have HPA := Lib.hid hpa; clear hpa
                have HLE := Lib.hid hle; clear hle
                simp only [Nat.zero_mul, Nat.add_zero] at x1 x2 x3
                rcases c4 with rfl | ⟨rfl, c6⟩
                all_goals
                  go_wp2_with (first | (with_reducible refine ((HPA.out _).mono ?_); rintro e w' ⟨rfl, hb⟩; replace HJ := Lib.hid (HJ.out.keep hb); clear j0 j1 j2 j3 jf0 jf1 jf2 jf3; replace HG := Lib.hid (HG.out.keep hb); clear g0 g1 g2 gf0 gf1 gf2; replace HB := Lib.hid (bch' HB.out hb); clear hb; obtain ⟨j0, j1, j2, j3, jf0, jf1, jf2, jf3⟩ := HJ.out.c4; obtain ⟨g0, g1, g2, gf0, gf1, gf2⟩ := HG.out.c3) | (with_reducible refine ((HLE.out _).mono ?_); rintro e w' ⟨rfl, rfl⟩))
                  have f0 := fun p : BelowOf _ => (HJ.out.keep p.h).c4.1
                  have f1 := fun p : BelowOf _ => (HJ.out.keep p.h).c4.2.1
                  have f2 := fun p : BelowOf _ => (HJ.out.keep p.h).c4.2.2.1
                  have f3 := fun p : BelowOf _ => (HJ.out.keep p.h).c4.2.2.2.1
                  have g0q := fun p : BelowOf _ => (HG.out.keep p.h).c3.1
                  have g1q := fun p : BelowOf _ => (HG.out.keep p.h).c3.2.1
                  have g2q := fun p : BelowOf _ => (HG.out.keep p.h).c3.2.2.1
                  refine wp_region_WQ (by kernel_rfl) (by kernel_rfl) ?_
                  repeat (refine WQ.step (fun K hK => ?_); go_simp; first | (refine hK.out _ ?_; clear hK K) | (apply Exists.intro; refine ⟨fun _ => ?_, hK.out _ ?_⟩; (first | rfl); clear hK K))
                  refine WQ.nil ?_
                  intro _ hw'
                  obtain ⟨⟨wq, hbq⟩, hw2⟩ := hw'
                  subst hw2
                  replace HJ := Lib.hid (HJ.out.keep hbq)
                  replace HB := Lib.hid (bch' HB.out hbq)
                  clear f0 f1 f2 f3 g0q g1q g2q
                  go_wp2_with fail
                  go_roundw
                  case rel => exact ⟨0 + 1, r, by first | rfl | simp, Lib.hid (by have := hkr.out; omega), HB, HJ, HF⟩
                  case measure => first | (simp [intOf]; done) | (simp [intOf]; omega)
        · have he : subE nu pr inh gs = parE (gnv gs k).ch (gnv gs k).at_ := by rw [HE.out, ← HS.out, gaE_par c1]
          have hne : ((parE (gnv gs k).ch (gnv gs k).at_ : Int) != 0) = true := by simpa using c1
          have HE2 := Lib.hid he; clear he c1 HS HE
          generalize parE (gnv gs k).ch (gnv gs k).at_ = m at *
          have HPA := Lib.hid hpa; clear hpa
          have HLE := Lib.hid hle; clear hle
          go_wp2_with (first | (with_reducible refine ((HPA.out _).mono ?_); rintro e w' ⟨rfl, hb⟩; replace HJ := Lib.hid (HJ.out.keep hb); clear j0 j1 j2 j3 jf0 jf1 jf2 jf3; replace HG := Lib.hid (HG.out.keep hb); clear g0 g1 g2 gf0 gf1 gf2; replace HB := Lib.hid (bch' HB.out hb); clear hb; obtain ⟨j0, j1, j2, j3, jf0, jf1, jf2, jf3⟩ := HJ.out.c4; obtain ⟨g0, g1, g2, gf0, gf1, gf2⟩ := HG.out.c3) | (with_reducible refine ((HLE.out _).mono ?_); rintro e w' ⟨rfl, rfl⟩))
          go_ret
          exact ⟨by rw [HE2.out]; rfl, HB.out⟩

set_option maxRecDepth 100000 in
set_option maxHeartbeats 8000000 in
theorem r26_table (l : List Sb) (v : Value) (w : World) (hv : SbsAt w v l) :
    Calls Tryz.prog 49 #[v] w fun e w' => e = .returned (.int .i64 (tabE l)) ∧ Below w.heap.size w w' := by
  obtain ⟨p, c, rfl, -, hv1⟩ := hv
  have hv2 := Lib.hid hv1; clear hv1
  have HB := Lib.hid (Below.refl w.heap.size w)
  by_cases o4 : 16 < l.length
  · have o5 : (16 : Int) < (l.length : Int) := by omega
    rw [tabE_many o4]
    go_enter Tryz.func49, Tryz.ntmps49
    go_wp2_with fail
    go_ret
    exact ⟨rfl, HB.out⟩
  · have o5 : ¬ (16 : Int) < (l.length : Int) := by omega
    have hE := tabE_few o4
    have HE := Lib.hid hE; clear hE
    go_enter Tryz.func49, Tryz.ntmps49
    go_wp2_with fail
    go_loopw [3] (fun i wr => ∃ k r : Nat, i = .int .i64 (k : Int) ∧ Hid (k + r = l.length) ∧ Hid (Below w.heap.size w wr) ∧ Hid (tuE l r k = tuE l l.length 0)) (fun i _ => l.length - (intOf i).toNat)
    case atStart => exact ⟨0, l.length, rfl, Lib.hid (by omega), HB, Lib.hid rfl⟩
    case round =>
      obtain ⟨k, r, rfl, hkr, HB2, HS⟩ := hrel
      clear HB
      have HB := HB2; clear HB2
      cases r with
      | zero =>
        have hlt : ¬ (k : Int) < (l.length : Int) := by have := hkr.out; omega
        have he : tabE l = 0 := by rw [HE.out, ← HS.out]; rfl
        have HE2 := Lib.hid he; clear he
        go_wp2
        go_ret
        exact ⟨by rw [HE2.out]; rfl, HB.out⟩
      | succ r =>
        have hkl : k < l.length := by have := hkr.out; omega
        have hlt : (k : Int) < (l.length : Int) := by omega
        obtain ⟨b, o, rfl, hb, hC⟩ := hv2.out (fun h => by subst h; simp at hkl)
        have HC := Lib.hid hC; clear hC
        obtain ⟨x1, x2, x3, gv, x4, hgn⟩ := HC.out.below HB.out hb k hkl
        have hbr : b < wr.heap.size := by have := HB.out.size; omega
        have hun : IntKind.i64.wrap ((k : Int) + 1) = (k : Int) + 1 := IntWalk.i64_in _ (by omega)
        have HGN := Lib.hid hgn; clear hgn
        have hck := fun W (h : GnsAt W gv (sbv l k).gs) => r26_check (sbv l k).nu (sbv l k).pr (sbv l k).inh (sbv l k).gs gv W h
        change ∀ W (h : GnsAt W gv (sbv l k).gs), Calls _ _ _ W (fun e w' => e = .returned (.int .i64 (sbE (sbv l k))) ∧ _) at hck
        have hlS : ∀ h : 0 < k, lastS l k = (sbv l (k - 1)).nu := fun h => by unfold lastS; rw [if_neg (by omega)]
        by_cases c1 : sbE (sbv l k) = 0
        · rw [c1] at hck
          by_cases hk0 : 0 < k
          · have hk1 : k - 1 < l.length := by omega
            have hg0 : decide (0 < k) = true := decide_eq_true hk0
            have hgi : (0 : Int) < (k : Int) := by omega
            have hm1 : IntKind.i64.wrap ((k : Int) - 1) = ((k - 1 : Nat) : Int) := by rw [IntWalk.i64_in _ (by omega)]; omega
            by_cases c2 : (sbv l k).nu ≤ lastS l k
            · have c3 : decide ((sbv l k).nu ≤ (sbv l (k - 1)).nu) = true := decide_eq_true (by rw [← hlS hk0]; exact c2)
              have he : tabE l = 9 := by rw [HE.out, ← HS.out, tuE_ord c1 c2]
              have HE2 := Lib.hid he; clear he HS HE c1 c2 hlS
              have HCK := Lib.hid hck; clear hck
              go_wp2_with (first | (with_reducible refine ((HCK.out _ HGN.out).mono ?_); rintro e w' ⟨rfl, hb⟩; replace HB := Lib.hid (bch' HB.out hb); clear hb))
              have r1 := fun p : BelowOf _ => ((HC.out.below (bch' HB.out p.h) hb) k hkl).1
              have r2 := fun p : BelowOf _ => ((HC.out.below (bch' HB.out p.h) hb) (k - 1) hk1).1
              refine wp_region_WQ (by kernel_rfl) (by kernel_rfl) ?_
              repeat (refine WQ.step (fun K hK => ?_); go_simp; first | (refine hK.out _ ?_; clear hK K) | (apply Exists.intro; refine ⟨fun _ => ?_, hK.out _ ?_⟩; (first | rfl); clear hK K))
              refine WQ.nil ?_
              intro _ hw'
              obtain ⟨⟨wq, hbq⟩, hw2⟩ := hw'
              subst hw2
              replace HB := Lib.hid (bch' HB.out hbq)
              clear r1 r2
              go_wp2_with fail
              go_ret
              exact ⟨by rw [HE2.out]; rfl, HB.out⟩
            · have c3 : decide ((sbv l k).nu ≤ (sbv l (k - 1)).nu) = false := decide_eq_false (by rw [← hlS hk0]; exact c2)
              have HF : Hid (tuE l r (k + 1) = tuE l l.length 0) := by show _ = _; rw [← HS.out, tuE_go c1 c2]
              clear HS HE c1 c2 hlS
              have HCK := Lib.hid hck; clear hck
              go_wp2_with (first | (with_reducible refine ((HCK.out _ HGN.out).mono ?_); rintro e w' ⟨rfl, hb⟩; replace HB := Lib.hid (bch' HB.out hb); clear hb))
              have r1 := fun p : BelowOf _ => ((HC.out.below (bch' HB.out p.h) hb) k hkl).1
              have r2 := fun p : BelowOf _ => ((HC.out.below (bch' HB.out p.h) hb) (k - 1) hk1).1
              refine wp_region_WQ (by kernel_rfl) (by kernel_rfl) ?_
              repeat (refine WQ.step (fun K hK => ?_); go_simp; first | (refine hK.out _ ?_; clear hK K) | (apply Exists.intro; refine ⟨fun _ => ?_, hK.out _ ?_⟩; (first | rfl); clear hK K))
              refine WQ.nil ?_
              intro _ hw'
              obtain ⟨⟨wq, hbq⟩, hw2⟩ := hw'
              subst hw2
              replace HB := Lib.hid (bch' HB.out hbq)
              clear r1 r2
              go_wp2_with fail
              go_roundw
              case rel => exact ⟨k + 1, r, by first | rfl | simp, Lib.hid (by have := hkr.out; omega), HB, HF⟩
              case measure => first | (simp [intOf]; done) | (simp [intOf]; omega)
          · obtain rfl : k = 0 := by omega
            by_cases c2 : (sbv l 0).nu ≤ lastS l 0
            · exact absurd c2 (by rw [lastS_zero]; have := (subOk c1).nu0; omega)
            · have HF : Hid (tuE l r (0 + 1) = tuE l l.length 0) := by show _ = _; rw [← HS.out, tuE_go c1 c2]
              clear HS HE c1 c2 hlS
              simp only [Nat.zero_mul, Nat.add_zero] at x1 x2 x3 x4
              have HCK := Lib.hid hck; clear hck
              go_wp2_with (first | (with_reducible refine ((HCK.out _ HGN.out).mono ?_); rintro e w' ⟨rfl, hb⟩; replace HB := Lib.hid (bch' HB.out hb); clear hb))
              refine wp_region_WQ (by kernel_rfl) (by kernel_rfl) ?_
              repeat (refine WQ.step (fun K hK => ?_); go_simp; first | (refine hK.out _ ?_; clear hK K) | (apply Exists.intro; refine ⟨fun _ => ?_, hK.out _ ?_⟩; (first | rfl); clear hK K))
              refine WQ.nil ?_
              intro _ hw'
              obtain ⟨⟨wq, hbq⟩, hw2⟩ := hw'
              subst hw2
              replace HB := Lib.hid (bch' HB.out hbq)
              go_wp2_with fail
              go_roundw
              case rel => exact ⟨0 + 1, r, by first | rfl | simp, Lib.hid (by have := hkr.out; omega), HB, HF⟩
              case measure => first | (simp [intOf]; done) | (simp [intOf]; omega)
        · have he : tabE l = sbE (sbv l k) := by rw [HE.out, ← HS.out, tuE_bad c1]
          have HE2 := Lib.hid he; clear he HS HE hlS
          have hne : ((sbE (sbv l k) : Int) != 0) = true := by simpa using c1
          generalize sbE (sbv l k) = m at *
          have HCK := Lib.hid hck; clear hck
          go_wp2_with (first | (with_reducible refine ((HCK.out _ HGN.out).mono ?_); rintro e w' ⟨rfl, hb⟩; replace HB := Lib.hid (bch' HB.out hb); clear hb))
          go_ret
          exact ⟨by rw [HE2.out]; rfl, HB.out⟩
end Go.Proofs.YtkjelfmgnkkijaaGreatDoor
namespace Lum
open Go Go.RowKit Go.Shelf
open Go.Lib (decDigits itoa)
end Lum
namespace Go.Proofs.YtkjelfmgnkkijaaGreatDoor
open Go.RowKit Go.Shelf Lum
open Go.Lib (decDigits itoa)
attribute [local go_sem] bs_get bs_extract_end bs_extract_from bs_extract bs_append

set_option maxRecDepth 100000 in
set_option maxHeartbeats 4000000 in
theorem r26_place (l : List Sb) (n : Int) (v : Value) (w : World) (hv : SbsAt w v l) (hn0 : l.length ≤ 1000000) :
    Calls Tryz.prog 84 #[v, .int .i64 n] w fun e w' => e = .returned (.int .i64 (ixOf (fun x => x.nu == n) l)) ∧ Below w.heap.size w w' := by
  obtain ⟨p, c, rfl, -, hv1⟩ := hv
  have hv2 := Lib.hid hv1; clear hv1
  have HB := Lib.hid (Below.refl w.heap.size w)
  go_enter Tryz.func84, Tryz.ntmps84
  go_wp2_with fail
  go_loopw [5] (fun i wr => ∃ k r : Nat, i = .int .i64 (k : Int) ∧ Hid (k + r = l.length) ∧ Hid (Below w.heap.size w wr) ∧ Hid (∀ j, j < k → (sbv l j).nu ≠ n)) (fun i _ => l.length - (intOf i).toNat)
  case atStart => exact ⟨0, l.length, rfl, Lib.hid (by omega), HB, Lib.hid (fun j h => absurd h (Nat.not_lt_zero j))⟩
  case round =>
    obtain ⟨k, r, rfl, hkr, HB2, HN⟩ := hrel
    clear HB
    have HB := HB2; clear HB2
    cases r with
    | zero =>
      have hlt : ¬ (k : Int) < (l.length : Int) := by have := hkr.out; omega
      have hr := ixOf_no (p := (fun x => x.nu == n)) (l := l) (fun j hj => by rw [sbv_at hj]; simpa using HN.out j (by have := hkr.out; omega))
      have HR := Lib.hid hr; clear hr
      go_wp2
      go_ret
      exact ⟨by rw [HR.out]; rfl, HB.out⟩
    | succ r =>
      have hkl : k < l.length := by have := hkr.out; omega
      have hlt : (k : Int) < (l.length : Int) := by omega
      obtain ⟨b, o, rfl, hb, hC⟩ := hv2.out (fun h => by subst h; simp at hkl)
      replace hC : SbsC w b o l := hC
      obtain ⟨x1, x2, x3, gv, x4, x5⟩ := hC.below HB.out hb k hkl
      clear hC
      have hbr : b < wr.heap.size := by have := HB.out.size; omega
      have hun : IntKind.i64.wrap ((k : Int) + 1) = (k : Int) + 1 := IntWalk.i64_in _ (by omega)
      by_cases e : (sbv l k).nu = n
      · have hr := ixOf_at (p := (fun x => x.nu == n)) (l := l) hkl (by rw [sbv_at hkl]; simpa using e) (fun j hj => by rw [sbv_at (by omega)]; simpa using HN.out j hj)
        have HR := Lib.hid hr; clear hr
        have eb : (((sbv l k).nu : Int) == n) = true := by simpa using e
        clear e
        go_wp2
        go_ret
        exact ⟨by rw [HR.out]; rfl, HB.out⟩
      · have eb : (((sbv l k).nu : Int) == n) = false := by simpa using e
        have HN2 : Hid (∀ j, j < k + 1 → (sbv l j).nu ≠ n) := fun j hj => by
          by_cases g : j = k
          · subst g; exact e
          · exact HN.out j (by omega)
        clear e
        go_wp2
        go_roundw
        case rel => exact ⟨k + 1, r, by first | rfl | simp, Lib.hid (by have := hkr.out; omega), HB, HN2⟩
        case measure => first | (simp [intOf]; done) | (simp [intOf]; omega)

end Go.Proofs.YtkjelfmgnkkijaaGreatDoor
namespace Lum
open Go Go.RowKit Go.Shelf
open Go.Lib (decDigits itoa)
end Lum
namespace Go.Proofs.YtkjelfmgnkkijaaGreatDoor
open Go.RowKit Go.Shelf Lum
open Go.Lib (decDigits itoa)
attribute [local go_sem] bs_get bs_extract_end bs_extract_from bs_extract bs_append

end Go.Proofs.YtkjelfmgnkkijaaGreatDoor
