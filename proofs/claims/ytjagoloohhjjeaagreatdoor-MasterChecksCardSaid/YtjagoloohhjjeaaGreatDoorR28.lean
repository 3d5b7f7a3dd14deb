/-
  The reference of layer 26: Faders.
-/
import Derived.Test.YtjagoloohhjjeaaGreatDoorSp
import Derived.Test.YtjagoloohhjjeaaGreatDoorGl2
import Derived.Test.YtjagoloohhjjeaaGreatDoorQc
set_option linter.unusedVariables false
set_option linter.unusedSimpArgs false
namespace Lum
open Go Go.RowKit Go.Shelf
open Go.Lib (decDigits itoa)
theorem FdsC.get {W : World} {b o : Nat} {l : List Fdr} (h : FdsC W b o l) {i : Nat} (hi : i < l.length) : W.cell? ⟨b, o + i * 6, none⟩ = some (.int .i64 (fdv l i).su) ∧ W.cell? ⟨b, o + i * 6 + 1, none⟩ = some (.string ⟨(fdv l i).fr.toArray⟩) ∧ W.cell? ⟨b, o + i * 6 + 2, none⟩ = some (.int .i64 (fdv l i).tz) ∧
  W.cell? ⟨b, o + i * 6 + 3, none⟩ = some (.int .i64 (fdv l i).st) ∧ W.cell? ⟨b, o + i * 6 + 4, none⟩ = some (.int .i64 (fdv l i).ti) ∧ W.cell? ⟨b, o + i * 6 + 5, none⟩ = some (.int .i64 (fdv l i).stp) := h i hi
end Lum
namespace Go.Proofs.YtjagoloohhjjeaaGreatDoor
open Go.RowKit Go.Shelf Lum
open Go.Lib (decDigits itoa)
attribute [local go_sem] bs_get bs_extract_end bs_extract_from bs_extract bs_append

set_option maxRecDepth 100000 in
set_option maxHeartbeats 8000000 in
theorem r26_faders (l : List Fdr) (v : Value) (w : World) (hv : FdsAt w v l) (hf : ∀ i, i < l.length → (fdv l i).fr.length ≤ 1000) :
    Calls Tryz.prog 75 #[v] w fun e w' => e = .returned (.int .i64 (facE l)) ∧ Below w.heap.size w w' := by
  obtain ⟨p, c, rfl, -, hv1⟩ := hv
  have hv2 := Lib.hid hv1; clear hv1
  have hfr := Lib.hid hf; clear hf
  have HB := Lib.hid (Below.refl w.heap.size w)
  by_cases o4 : 16 < l.length
  · have o5 : (16 : Int) < (l.length : Int) := by omega
    rw [facE_many o4]
    go_enter Tryz.func75, Tryz.ntmps75
    go_wp2_with fail
    go_ret
    exact ⟨rfl, HB.out⟩
  · have o5 : ¬ (16 : Int) < (l.length : Int) := by omega
    have hE := facE_few o4
    have HE := Lib.hid hE; clear hE
    go_enter Tryz.func75, Tryz.ntmps75
    go_wp2_with fail
    go_loopw [3] (fun i wr => ∃ k r : Nat, i = .int .i64 (k : Int) ∧ Hid (k + r = l.length) ∧ Hid (Below w.heap.size w wr) ∧ Hid (fuE l r k = fuE l l.length 0)) (fun i _ => l.length - (intOf i).toNat)
    case atStart => exact ⟨0, l.length, rfl, Lib.hid (by omega), HB, Lib.hid rfl⟩
    case round =>
      obtain ⟨k, r, rfl, hkr, HB2, HS⟩ := hrel
      clear HB
      have HB := HB2; clear HB2
      cases r with
      | zero =>
        have hlt : ¬ (k : Int) < (l.length : Int) := by have := hkr.out; omega
        have he : facE l = 0 := by rw [HE.out, ← HS.out]; rfl
        have HE2 := Lib.hid he; clear he
        go_wp2
        go_ret
        exact ⟨by rw [HE2.out]; rfl, HB.out⟩
      | succ r =>
        have hkl : k < l.length := by have := hkr.out; omega
        have hlt : (k : Int) < (l.length : Int) := by omega
        obtain ⟨b, o, rfl, hb, hC⟩ := hv2.out (fun h => by subst h; simp at hkl)
        replace hC : FdsC w b o l := hC
        have HC := Lib.hid hC; clear hC
        obtain ⟨x1, x2, x3, x4, x5, x6⟩ := HC.out.below HB.out hb k hkl
        have hbr : b < wr.heap.size := by have := HB.out.size; omega
        have hun : IntKind.i64.wrap ((k : Int) + 1) = (k : Int) + 1 := IntWalk.i64_in _ (by omega)
        have hck := fun W => r3_check (fdv l k).fr (fdv l k).tz (fdv l k).st (fdv l k).ti W (hfr.out k hkl)
        change ∀ W, Calls _ _ _ W (fun e w' => e = .returned (.int .i64 (fgE (fdv l k))) ∧ _) at hck
        have hti := fun W => r3_time (fdv l k).stp W
        have hlS : ∀ h : 0 < k, lastF l k = (fdv l (k - 1)).su := fun h => by unfold lastF; rw [if_neg (by omega)]
        by_cases o0 : (fdv l k).su < 1
        · have he : facE l = 2 := by rw [HE.out, ← HS.out, fuE_su (by omega)]
          have HE2 := Lib.hid he; clear he HS HE hlS
          have HCK := Lib.hid hck; clear hck
          have HTI := Lib.hid hti; clear hti
          go_wp2_with (first | (with_reducible refine ((HCK.out _).mono ?_); rintro e w' ⟨rfl, hb⟩; replace HB := Lib.hid (bch' HB.out hb); clear hb; clear x1 x2 x3 x4 x5 x6; obtain ⟨x1, x2, x3, x4, x5, x6⟩ := (HC.out.below HB.out hb).get hkl) | (with_reducible refine ((HTI.out _).mono ?_); rintro e w' ⟨rfl, rfl⟩))
          go_ret
          exact ⟨by rw [HE2.out]; rfl, HB.out⟩
        by_cases o1 : 1048576 < (fdv l k).su
        · have he : facE l = 2 := by rw [HE.out, ← HS.out, fuE_su (by omega)]
          have HE2 := Lib.hid he; clear he HS HE hlS
          have HCK := Lib.hid hck; clear hck
          have HTI := Lib.hid hti; clear hti
          go_wp2_with (first | (with_reducible refine ((HCK.out _).mono ?_); rintro e w' ⟨rfl, hb⟩; replace HB := Lib.hid (bch' HB.out hb); clear hb; clear x1 x2 x3 x4 x5 x6; obtain ⟨x1, x2, x3, x4, x5, x6⟩ := (HC.out.below HB.out hb).get hkl) | (with_reducible refine ((HTI.out _).mono ?_); rintro e w' ⟨rfl, rfl⟩))
          go_ret
          exact ⟨by rw [HE2.out]; rfl, HB.out⟩
        have c0 : ¬ ((fdv l k).su < 1 ∨ 1048576 < (fdv l k).su) := by omega
        by_cases c1 : fgE (fdv l k) = 0
        · rw [c1] at hck
          by_cases c2 : (fdv l k).stp < 0 ∨ 10000000 < (fdv l k).stp
          · rw [decide_eq_false (by omega)] at hti
            have he : facE l = 2 := by rw [HE.out, ← HS.out, fuE_stp c0 c1 c2]
            have HE2 := Lib.hid he; clear he HS HE hlS
            have HCK := Lib.hid hck; clear hck
            have HTI := Lib.hid hti; clear hti
            go_wp2_with (first | (with_reducible refine ((HCK.out _).mono ?_); rintro e w' ⟨rfl, hb⟩; replace HB := Lib.hid (bch' HB.out hb); clear hb; clear x1 x2 x3 x4 x5 x6; obtain ⟨x1, x2, x3, x4, x5, x6⟩ := (HC.out.below HB.out hb).get hkl) | (with_reducible refine ((HTI.out _).mono ?_); rintro e w' ⟨rfl, rfl⟩))
            go_ret
            exact ⟨by rw [HE2.out]; rfl, HB.out⟩
          · rw [decide_eq_true (by omega)] at hti
            by_cases hk0 : 0 < k
            · have hk1 : k - 1 < l.length := by omega
              have hg0 : decide (0 < k) = true := decide_eq_true hk0
              have hgi : (0 : Int) < (k : Int) := by omega
              have hm1 : IntKind.i64.wrap ((k : Int) - 1) = ((k - 1 : Nat) : Int) := by rw [IntWalk.i64_in _ (by omega)]; omega
              by_cases c3 : (fdv l k).su ≤ lastF l k
              · have c4 : decide ((fdv l k).su ≤ (fdv l (k - 1)).su) = true := decide_eq_true (by rw [← hlS hk0]; exact c3)
                have he : facE l = 9 := by rw [HE.out, ← HS.out, fuE_ord c0 c1 c2 c3]
                have HE2 := Lib.hid he; clear he HS HE c1 c2 c3 c0 hlS
                have HCK := Lib.hid hck; clear hck
                have HTI := Lib.hid hti; clear hti
                go_wp2_with (first | (with_reducible refine ((HCK.out _).mono ?_); rintro e w' ⟨rfl, hb⟩; replace HB := Lib.hid (bch' HB.out hb); clear hb; clear x1 x2 x3 x4 x5 x6; obtain ⟨x1, x2, x3, x4, x5, x6⟩ := (HC.out.below HB.out hb).get hkl) | (with_reducible refine ((HTI.out _).mono ?_); rintro e w' ⟨rfl, rfl⟩))
                have r1 := fun p : BelowOf _ => ((HC.out.below (bch' HB.out p.h) hb) k hkl).1
                have r2 := fun p : BelowOf _ => ((HC.out.below (bch' HB.out p.h) hb) (k - 1) hk1).1
                refine wp_region_WQ (by kernel_rfl) (by kernel_rfl) ?_
                repeat (refine WQ.step (fun K hK => ?_); go_simp; first | (refine hK.out _ ?_; clear hK K) | (apply Exists.intro; refine ⟨fun _ => ?_, hK.out _ ?_⟩; (first | rfl); clear hK K))
                refine WQ.nil ?_
                intro _ hw'
                obtain ⟨⟨wq, hbq⟩, hw2⟩ := hw'
                subst hw2
                replace HB := Lib.hid (bch' HB.out hbq)
                clear r1 r2
                go_wp2_with fail
                go_ret
                exact ⟨by rw [HE2.out]; rfl, HB.out⟩
              · have c4 : decide ((fdv l k).su ≤ (fdv l (k - 1)).su) = false := decide_eq_false (by rw [← hlS hk0]; exact c3)
                have HF : Hid (fuE l r (k + 1) = fuE l l.length 0) := by show _ = _; rw [← HS.out, fuE_go c0 c1 c2 c3]
                clear HS HE c1 c2 c3 c0 hlS
                have HCK := Lib.hid hck; clear hck
                have HTI := Lib.hid hti; clear hti
                go_wp2_with (first | (with_reducible refine ((HCK.out _).mono ?_); rintro e w' ⟨rfl, hb⟩; replace HB := Lib.hid (bch' HB.out hb); clear hb; clear x1 x2 x3 x4 x5 x6; obtain ⟨x1, x2, x3, x4, x5, x6⟩ := (HC.out.below HB.out hb).get hkl) | (with_reducible refine ((HTI.out _).mono ?_); rintro e w' ⟨rfl, rfl⟩))
                have r1 := fun p : BelowOf _ => ((HC.out.below (bch' HB.out p.h) hb) k hkl).1
                have r2 := fun p : BelowOf _ => ((HC.out.below (bch' HB.out p.h) hb) (k - 1) hk1).1
                refine wp_region_WQ (by kernel_rfl) (by kernel_rfl) ?_
                repeat (refine WQ.step (fun K hK => ?_); go_simp; first | (refine hK.out _ ?_; clear hK K) | (apply Exists.intro; refine ⟨fun _ => ?_, hK.out _ ?_⟩; (first | rfl); clear hK K))
                refine WQ.nil ?_
                intro _ hw'
                obtain ⟨⟨wq, hbq⟩, hw2⟩ := hw'
                subst hw2
                replace HB := Lib.hid (bch' HB.out hbq)
                clear r1 r2
                go_wp2_with fail
                go_roundw
                case rel => exact ⟨k + 1, r, by first | rfl | simp, Lib.hid (by have := hkr.out; omega), HB, HF⟩
                case measure => first | (simp [intOf]; done) | (simp [intOf]; omega)
            · obtain rfl : k = 0 := by omega
              by_cases c3 : (fdv l 0).su ≤ lastF l 0
              · exact absurd c3 (by rw [lastF_zero]; omega)
              · have HF : Hid (fuE l r (0 + 1) = fuE l l.length 0) := by show _ = _; rw [← HS.out, fuE_go c0 c1 c2 c3]
                clear HS HE c1 c2 c3 c0 hlS
                simp only [Nat.zero_mul, Nat.add_zero] at x1 x2 x3 x4 x5 x6
                have HCK := Lib.hid hck; clear hck
                have HTI := Lib.hid hti; clear hti
                go_wp2_with (first | (with_reducible refine ((HCK.out _).mono ?_); rintro e w' ⟨rfl, hb⟩; replace HB := Lib.hid (bch' HB.out hb); clear hb; clear x1 x2 x3 x4 x5 x6; obtain ⟨x1, x2, x3, x4, x5, x6⟩ := (HC.out.below HB.out hb).get hkl) | (with_reducible refine ((HTI.out _).mono ?_); rintro e w' ⟨rfl, rfl⟩))
                refine wp_region_WQ (by kernel_rfl) (by kernel_rfl) ?_
                repeat (refine WQ.step (fun K hK => ?_); go_simp; first | (refine hK.out _ ?_; clear hK K) | (apply Exists.intro; refine ⟨fun _ => ?_, hK.out _ ?_⟩; (first | rfl); clear hK K))
                refine WQ.nil ?_
                intro _ hw'
                obtain ⟨⟨wq, hbq⟩, hw2⟩ := hw'
                subst hw2
                replace HB := Lib.hid (bch' HB.out hbq)
                go_wp2_with fail
                go_roundw
                case rel => exact ⟨0 + 1, r, by first | rfl | simp, Lib.hid (by have := hkr.out; omega), HB, HF⟩
                case measure => first | (simp [intOf]; done) | (simp [intOf]; omega)
        · have he : facE l = fgE (fdv l k) := by rw [HE.out, ← HS.out, fuE_gl c0 c1]
          have HE2 := Lib.hid he; clear he HS HE c0 hlS
          have hne : ((fgE (fdv l k) : Int) != 0) = true := by simpa using c1
          generalize fgE (fdv l k) = m at *
          have HCK := Lib.hid hck; clear hck
          have HTI := Lib.hid hti; clear hti
          go_wp2_with (first | (with_reducible refine ((HCK.out _).mono ?_); rintro e w' ⟨rfl, hb⟩; replace HB := Lib.hid (bch' HB.out hb); clear hb; clear x1 x2 x3 x4 x5 x6; obtain ⟨x1, x2, x3, x4, x5, x6⟩ := (HC.out.below HB.out hb).get hkl) | (with_reducible refine ((HTI.out _).mono ?_); rintro e w' ⟨rfl, rfl⟩))
          go_ret
          exact ⟨by rw [HE2.out]; rfl, HB.out⟩
end Go.Proofs.YtjagoloohhjjeaaGreatDoor
