/-
  Law 26: the law SubmasterChecks.
-/
import Derived.Test.YtkjelfmgnkkijaaGreatDoorSg
set_option linter.unusedVariables false
set_option linter.unusedSimpArgs false
namespace Go.Proofs.YtkjelfmgnkkijaaGreatDoor
open Go.RowKit Go.Shelf Lum
open Go.Lib (decDigits itoa)
attribute [local go_sem] bs_get bs_extract_end bs_extract_from bs_extract bs_append

set_option maxRecDepth 100000 in
set_option maxHeartbeats 4000000 in
theorem law_checks26 (nu pr : Int) (inh : Bool) (gs : List Gn) (l : List Fdr) (gv lv : Value) (su : List Sb) (sv : Value) (w : World) (hv : GnsAt w gv gs) (hl : FdsAt w lv l) (hs : SbsAt w sv su) (env : Env w) :
    Calls Tryz.prog 10 #[.agg #[.int .i64 nu, .int .i64 pr, .bool (inh), gv], sv, lv] w fun e w' => e = .returned (.bool (true)) ∧ Below w.heap.size w w' := by
  obtain ⟨pg, cg, rfl⟩ : ∃ pg cg, gv = .slice pg gs.length cg := by obtain ⟨pg, cg, e, -⟩ := hv; exact ⟨pg, cg, e⟩
  have ENV := Lib.hid env; clear env
  have HK := Lib.hid (Blk.new w 58 #[.int .i64 nu, .int .i64 pr, .bool (inh), (.slice pg gs.length cg)])
  have HB := Lib.hid ((Below.refl w.heap.size w).alloc (Nat.le_refl _) (.cells #[.int .i64 nu, .int .i64 pr, .bool (inh), (.slice pg gs.length cg)] 58))
  obtain ⟨k0, k1, k2, k3, kf0, kf1, kf2, kf3⟩ := HK.out.c4
  have hal := (Below.refl w.heap.size w).alloc (Nat.le_refl _) (.cells #[.int .i64 nu, .int .i64 pr, .bool (inh), (.slice pg gs.length cg)] 58)
  have HV := Lib.hid (GnsAt.kept hv hal)
  have HL := Lib.hid (FdsAt.kept hl hal)
  have HS := Lib.hid (SbsAt.kept hs hal)
  clear hal hv hl hs
  have haw := fun W (e : Env W) => l26_awake W e
  have hfe := fun su sv W (h : SbsAt W sv su) => r26_few su sv W h
  have hff := fun W (h : FdsAt W lv l) => r26_fewfaders l lv W h
  have HAW := Lib.hid haw; clear haw
  have HFE := Lib.hid hfe; clear hfe
  have HFF := Lib.hid hff; clear hff
  go_enter Tryz.func10, Tryz.ntmps10
  go_wp2_with fail
  generalize w.alloc (.cells #[.int .i64 nu, .int .i64 pr, .bool (inh), (.slice pg gs.length cg)] 58) = w1 at *
  with_reducible refine ((HFE.out _ _ _ HS.out).mono ?_)
  rintro e w2 ⟨b1, rfl, -, hb⟩
  replace HK := Lib.hid (HK.out.keep hb); clear k0 k1 k2 k3 kf0 kf1 kf2 kf3; replace HV := Lib.hid (GnsAt.kept HV.out hb); replace HL := Lib.hid (FdsAt.kept HL.out hb); replace HS := Lib.hid (SbsAt.kept HS.out hb); replace HB := Lib.hid (bch' HB.out hb); clear hb; obtain ⟨k0, k1, k2, k3, kf0, kf1, kf2, kf3⟩ := HK.out.c4
  cases b1
  · go_wp2_with (first | (with_reducible refine ((HAW.out _ (ENV.out.below HB.out)).mono ?_); rintro e w' ⟨rfl, hb⟩; replace HK := Lib.hid (HK.out.keep hb); clear k0 k1 k2 k3 kf0 kf1 kf2 kf3; replace HV := Lib.hid (GnsAt.kept HV.out hb); replace HL := Lib.hid (FdsAt.kept HL.out hb); replace HS := Lib.hid (SbsAt.kept HS.out hb); replace HB := Lib.hid (bch' HB.out hb); clear hb; obtain ⟨k0, k1, k2, k3, kf0, kf1, kf2, kf3⟩ := HK.out.c4))
    go_ret
    exact ⟨rfl, HB.out⟩
  · go_wp2_with fail
    have hal := (Below.refl w2.heap.size w2).alloc (Nat.le_refl _) (.cells #[.int .i64 nu, .int .i64 pr, .bool (inh), (.slice pg gs.length cg)] 58)
    with_reducible refine ((HFE.out _ _ _ (sbs_one (Blk.new w2 58 #[.int .i64 nu, .int .i64 pr, .bool (inh), (.slice pg gs.length cg)]) (GnsAt.kept HV.out hal))).mono ?_)
    rintro e w3 ⟨b2, rfl, -, hb⟩
    replace HK := Lib.hid ((HK.out.keep hal).keep hb)
    clear k0 k1 k2 k3 kf0 kf1 kf2 kf3
    replace HV := Lib.hid (GnsAt.kept (GnsAt.kept HV.out hal) hb)
    replace HL := Lib.hid (FdsAt.kept (FdsAt.kept HL.out hal) hb)
    replace HS := Lib.hid (SbsAt.kept (SbsAt.kept HS.out hal) hb)
    replace HB := Lib.hid (bch' (bch' HB.out hal) hb)
    clear hal hb
    obtain ⟨k0, k1, k2, k3, kf0, kf1, kf2, kf3⟩ := HK.out.c4
    cases b2
    · go_wp2_with (first | (with_reducible refine ((HAW.out _ (ENV.out.below HB.out)).mono ?_); rintro e w' ⟨rfl, hb⟩; replace HK := Lib.hid (HK.out.keep hb); clear k0 k1 k2 k3 kf0 kf1 kf2 kf3; replace HV := Lib.hid (GnsAt.kept HV.out hb); replace HL := Lib.hid (FdsAt.kept HL.out hb); replace HS := Lib.hid (SbsAt.kept HS.out hb); replace HB := Lib.hid (bch' HB.out hb); clear hb; obtain ⟨k0, k1, k2, k3, kf0, kf1, kf2, kf3⟩ := HK.out.c4))
      go_ret
      exact ⟨rfl, HB.out⟩
    · go_wp2_with fail
      refine ((HFF.out _ HL.out).mono ?_)
      rintro e w4 ⟨b3, rfl, hq, hb⟩
      replace HK := Lib.hid (HK.out.keep hb); clear k0 k1 k2 k3 kf0 kf1 kf2 kf3; replace HV := Lib.hid (GnsAt.kept HV.out hb); replace HL := Lib.hid (FdsAt.kept HL.out hb); replace HS := Lib.hid (SbsAt.kept HS.out hb); replace HB := Lib.hid (bch' HB.out hb); clear hb; obtain ⟨k0, k1, k2, k3, kf0, kf1, kf2, kf3⟩ := HK.out.c4
      cases b3
      · go_wp2_with (first | (with_reducible refine ((HAW.out _ (ENV.out.below HB.out)).mono ?_); rintro e w' ⟨rfl, hb⟩; replace HK := Lib.hid (HK.out.keep hb); clear k0 k1 k2 k3 kf0 kf1 kf2 kf3; replace HV := Lib.hid (GnsAt.kept HV.out hb); replace HL := Lib.hid (FdsAt.kept HL.out hb); replace HS := Lib.hid (SbsAt.kept HS.out hb); replace HB := Lib.hid (bch' HB.out hb); clear hb; obtain ⟨k0, k1, k2, k3, kf0, kf1, kf2, kf3⟩ := HK.out.c4))
        go_ret
        exact ⟨rfl, HB.out⟩
      · have hlen := hq rfl
        clear hq
        have ho1 := fun W (h : GnsAt W (.slice pg gs.length cg) gs) => own_scheck nu pr inh gs (.slice pg gs.length cg) W h
        have hr1 := fun W (h : GnsAt W (.slice pg gs.length cg) gs) => r26_check nu pr inh gs (.slice pg gs.length cg) W h
        have ho2 := fun W (h : SbsAt W sv su) => own_stable su sv W h
        have hr2 := fun W (h : SbsAt W sv su) => r26_table su sv W h
        have ho3 := fun W (h : FdsAt W lv l) (e : Env W) => own_sfaders l lv W h (fun i hi => Nat.le_trans (hlen i hi) (by omega)) e
        have hr3 := fun W (h : FdsAt W lv l) => r26_faders l lv W h (fun i hi => Nat.le_trans (hlen i hi) (by omega))
        clear hlen
        generalize subE nu pr inh gs = m1 at *
        generalize tabE su = m2 at *
        generalize facE l = m3 at *
        have P1 := Lib.hid ho1; have Q1 := Lib.hid hr1; have P2 := Lib.hid ho2; have Q2 := Lib.hid hr2; have P3 := Lib.hid ho3; have Q3 := Lib.hid hr3; clear ho1 hr1 ho2 hr2 ho3 hr3
        go_wp2_with fail
        have f0 := fun p : BelowOf _ => (HK.out.keep p.h).c4.1
        have f1 := fun p : BelowOf _ => (HK.out.keep p.h).c4.2.1
        have f2 := fun p : BelowOf _ => (HK.out.keep p.h).c4.2.2.1
        have f3 := fun p : BelowOf _ => (HK.out.keep p.h).c4.2.2.2.1
        refine wp_region_WQ (by kernel_rfl) (by kernel_rfl) ?_
        repeat (refine WQ.step (fun K hK => ?_); go_simp; first | (refine hK.out _ ?_; clear hK K) | (apply Exists.intro; refine ⟨fun _ => ?_, hK.out _ ?_⟩; (first | rfl | (go_at_call 31; exact calls_below_of _ (HAW.out _ (ENV.out.below (bch' HB.out (BelowOf.h _))))) | (go_at_call 47; exact calls_below_of _ (P1.out _ (GnsAt.kept HV.out (BelowOf.h _)))) | (go_at_call 41; exact calls_below_of _ (Q1.out _ (GnsAt.kept HV.out (BelowOf.h _)))) | (go_at_call 48; exact calls_below_of _ (P2.out _ (SbsAt.kept HS.out (BelowOf.h _)))) | (go_at_call 49; exact calls_below_of _ (Q2.out _ (SbsAt.kept HS.out (BelowOf.h _)))) | (go_at_call 50; exact calls_below_of _ (P3.out _ (FdsAt.kept HL.out (BelowOf.h _)) (ENV.out.below (bch' HB.out (BelowOf.h _))))) | (go_at_call 42; exact calls_below_of _ (Q3.out _ (FdsAt.kept HL.out (BelowOf.h _))))); clear hK K))
        refine WQ.nil ?_
        intro _ hw'
        obtain ⟨⟨wq, hbq⟩, hw2⟩ := hw'
        subst hw2
        replace HB := Lib.hid (bch' HB.out hbq)
        clear f0 f1 f2 f3
        go_wp2_with fail
        go_ret
        exact ⟨rfl, HB.out⟩
end Go.Proofs.YtkjelfmgnkkijaaGreatDoor
