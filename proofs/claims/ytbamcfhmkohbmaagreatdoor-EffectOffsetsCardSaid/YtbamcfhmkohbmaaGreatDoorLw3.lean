/-
  Layer 28: the law EffectOffsets.
-/
import Derived.Test.YtbamcfhmkohbmaaGreatDoorYk
import Derived.Test.YtbamcfhmkohbmaaGreatDoorYn
set_option linter.unusedVariables false
set_option linter.unusedSimpArgs false
namespace Go.Proofs.YtbamcfhmkohbmaaGreatDoor
open Go.RowKit Go.Shelf Lum
open Go.Lib (decDigits itoa)
attribute [local go_sem] bs_get bs_extract_end bs_extract_from bs_extract bs_append

set_option maxRecDepth 100000 in
set_option maxHeartbeats 4000000 in
theorem r28_few_e (n c : Nat) (p : Option Addr) (w : World) :
    Calls Tryz.prog 32 #[.slice p n c, .slice none 0 0] w fun e w' => e = .returned (.bool (!(decide (4 < n) && decide (n ≤ 16)))) ∧ Below w.heap.size w w' := by
  have HB := Lib.hid (Below.refl w.heap.size w)
  by_cases h1 : 4 < n
  · by_cases h2 : n ≤ 16
    · have h3 : (4 : Int) < (n : Int) := by omega
      have h4 : (n : Int) ≤ 16 := by omega
      rw [decide_eq_true h1, decide_eq_true h2]
      go_enter Tryz.func32, Tryz.ntmps32
      go_wp2_with fail
      go_ret
      exact ⟨rfl, HB.out⟩
    · have h3 : (4 : Int) < (n : Int) := by omega
      have h4 : ¬ (n : Int) ≤ 16 := by omega
      rw [decide_eq_false h2, Bool.and_false]
      go_enter Tryz.func32, Tryz.ntmps32
      go_wp2_with fail
      refine wp_loop_rounds 1 ?_; rw [rounds_succ]
      go_wp2_with fail
      go_ret
      exact ⟨rfl, HB.out⟩
  · have h3 : ¬ (4 : Int) < (n : Int) := by omega
    rw [decide_eq_false h1, Bool.false_and]
    go_enter Tryz.func32, Tryz.ntmps32
    go_wp2_with fail
    refine wp_loop_rounds 1 ?_; rw [rounds_succ]
    go_wp2_with fail
    go_ret
    exact ⟨rfl, HB.out⟩

set_option maxRecDepth 100000 in
set_option maxHeartbeats 8000000 in
theorem law_offsets (l : List Efx) (v : Value) (n i k at_ : Int) (w : World) (hl : EfsAt w v l) (hm : l.length ≤ maxLen) (hn0 : -9223372036854775808 ≤ n) (hn1 : n ≤ 9223372036854775807) (hi : (-9223372036854775808 ≤ i ∧ i ≤ 9223372036854775807)) (hk : (-9223372036854775808 ≤ k ∧ k ≤ 9223372036854775807)) (ha : (-9223372036854775808 ≤ at_ ∧ at_ ≤ 9223372036854775807)) (env : Env w) :
    Calls Tryz.prog 7 #[v, .int .i64 n, .agg #[.int .i64 i, .int .i64 k, .int .i64 at_]] w fun e w' => e = .returned (.bool (true)) ∧ Below w.heap.size w w' := by
  have ENV := Lib.hid env; clear env
  have hal := (Below.refl w.heap.size w).alloc (Nat.le_refl _) (.cells #[.int .i64 i, .int .i64 k, .int .i64 at_] 38)
  have HL0 := Lib.hid hl
  have HL := Lib.hid (EfsAt.kept hl hal); have HB := Lib.hid hal; clear hal
  have HM := Lib.hid (Blk.new w 38 #[.int .i64 i, .int .i64 k, .int .i64 at_])
  obtain ⟨m0, m1, m2, mf0, mf1, mf2⟩ := HM.out.c3
  obtain ⟨L, pp, cc, rfl, hL, hR, hH⟩ := hl
  have haw := fun W (e : Env W) => l28_awake W e
  have hfe := fun W => r28_few_e L.length cc pp W
  cases hfw : (!(decide (4 < L.length) && decide (L.length ≤ 16)))
  · rw [hfw] at hfe
    clear hL hR hH
    have HAW := Lib.hid haw; clear haw
    have HFE := Lib.hid hfe; clear hfe
    go_enter Tryz.func7, Tryz.ntmps7
    go_wp2_with (first | (with_reducible refine ((HFE.out _).mono ?_); rintro e w' ⟨rfl, hb⟩; replace HM := Lib.hid (HM.out.keep hb); clear m0 m1 m2 mf0 mf1 mf2; replace HL := Lib.hid (EfsAt.kept HL.out hb); replace HB := Lib.hid (bch' HB.out hb); clear hb; obtain ⟨m0, m1, m2, mf0, mf1, mf2⟩ := HM.out.c3) | (with_reducible refine ((HAW.out _ (ENV.out.below HB.out)).mono ?_); rintro e w' ⟨rfl, hb⟩; replace HM := Lib.hid (HM.out.keep hb); clear m0 m1 m2 mf0 mf1 mf2; replace HL := Lib.hid (EfsAt.kept HL.out hb); replace HB := Lib.hid (bch' HB.out hb); clear hb; obtain ⟨m0, m1, m2, mf0, mf1, mf2⟩ := HM.out.c3))
    go_ret
    exact ⟨rfl, HB.out⟩
  · rw [hfw] at hfe
    have hfi := fun W (h : EfsAt W (.slice pp L.length cc) l) => own_efind n l (.slice pp L.length cc) W h hn0 hn1
    have hri := fun W (h : EfsAt W (.slice pp L.length cc) l) => r28_find n l (.slice pp L.length cc) W h
    have hck := fun W (h : EfsAt W (.slice pp L.length cc) l) => own_echeck l (.slice pp L.length cc) W h
    have hcr := fun W (h : EfsAt W (.slice pp L.length cc) l) => r28_check l (.slice pp L.length cc) W h
    change ∀ W, EfsAt W (.slice pp L.length cc) l → Calls _ _ _ _ (fun e w' => e = .returned (.int .i64 (efsE l)) ∧ _) at hck
    change ∀ W, EfsAt W (.slice pp L.length cc) l → Calls _ _ _ _ (fun e w' => e = .returned (.int .i64 (efsE l)) ∧ _) at hcr
    generalize fndI l n = I0 at *
    generalize fndB l n = B0 at *
    generalize efsE l = E0 at *
    by_cases hLe : L = []
    · have hl0 : L.length = 0 := by rw [hLe]; rfl
      clear hL hR hH
      have HAW := Lib.hid haw; clear haw
      have HFE := Lib.hid hfe; clear hfe
      have HFI := Lib.hid hfi; clear hfi
      have HRI := Lib.hid hri; clear hri
      have HCK := Lib.hid hck; clear hck
      have HCR := Lib.hid hcr; clear hcr
      rw [hl0] at HL HFE HFI HRI HCK HCR ⊢
      go_enter Tryz.func7, Tryz.ntmps7
      go_wp2_with (first | (with_reducible refine ((HFE.out _).mono ?_); rintro e w' ⟨rfl, hb⟩; replace HM := Lib.hid (HM.out.keep hb); clear m0 m1 m2 mf0 mf1 mf2; replace HL := Lib.hid (EfsAt.kept HL.out hb); replace HB := Lib.hid (bch' HB.out hb); clear hb; obtain ⟨m0, m1, m2, mf0, mf1, mf2⟩ := HM.out.c3) | (with_reducible refine ((HFI.out _ HL.out).mono ?_); rintro e w' ⟨rfl, hb⟩; replace HM := Lib.hid (HM.out.keep hb); clear m0 m1 m2 mf0 mf1 mf2; replace HL := Lib.hid (EfsAt.kept HL.out hb); replace HB := Lib.hid (bch' HB.out hb); clear hb; obtain ⟨m0, m1, m2, mf0, mf1, mf2⟩ := HM.out.c3) | (with_reducible refine ((HRI.out _ HL.out).mono ?_); rintro e w' ⟨rfl, hb⟩; replace HM := Lib.hid (HM.out.keep hb); clear m0 m1 m2 mf0 mf1 mf2; replace HL := Lib.hid (EfsAt.kept HL.out hb); replace HB := Lib.hid (bch' HB.out hb); clear hb; obtain ⟨m0, m1, m2, mf0, mf1, mf2⟩ := HM.out.c3) | (with_reducible refine ((HAW.out _ (ENV.out.below HB.out)).mono ?_); rintro e w' ⟨rfl, hb⟩; replace HM := Lib.hid (HM.out.keep hb); clear m0 m1 m2 mf0 mf1 mf2; replace HL := Lib.hid (EfsAt.kept HL.out hb); replace HB := Lib.hid (bch' HB.out hb); clear hb; obtain ⟨m0, m1, m2, mf0, mf1, mf2⟩ := HM.out.c3) | (with_reducible refine ((HCK.out _ HL.out).mono ?_); rintro e w' ⟨rfl, hb⟩; replace HM := Lib.hid (HM.out.keep hb); clear m0 m1 m2 mf0 mf1 mf2; replace HL := Lib.hid (EfsAt.kept HL.out hb); replace HB := Lib.hid (bch' HB.out hb); clear hb; obtain ⟨m0, m1, m2, mf0, mf1, mf2⟩ := HM.out.c3) | (with_reducible refine ((HCR.out _ HL.out).mono ?_); rintro e w' ⟨rfl, hb⟩; replace HM := Lib.hid (HM.out.keep hb); clear m0 m1 m2 mf0 mf1 mf2; replace HL := Lib.hid (EfsAt.kept HL.out hb); replace HB := Lib.hid (bch' HB.out hb); clear hb; obtain ⟨m0, m1, m2, mf0, mf1, mf2⟩ := HM.out.c3))
      go_ret
      exact ⟨rfl, HB.out⟩
    · have h0 : 0 < L.length := List.length_pos_iff.2 hLe
      obtain ⟨y, hy⟩ : ∃ y, y = L[0]'h0 := ⟨_, rfl⟩
      obtain ⟨b, o, rfl, hbb, hC⟩ := hR hLe
      have hcell := hC 0 h0
      rw [← hy] at hcell
      simp only [Nat.zero_mul, Nat.add_zero] at hcell
      have HBb := Lib.hid hbb
      have HE0 := Lib.hid (hcell 0 _ rfl); have HE1 := Lib.hid (hcell 1 _ rfl); have HE2 := Lib.hid (hcell 2 _ rfl); have HE3 := Lib.hid (hcell 3 _ rfl); have HE4 := Lib.hid (hcell 4 _ rfl); have HE5 := Lib.hid (hcell 5 _ rfl)
      have hpt := hH y (by rw [hy]; exact List.getElem_mem h0)
      have HPT : Hid (∀ W', Below w.heap.size w W' → PtsAt W' (.slice y.2.1 y.2.2.1 y.2.2.2) y.1.wv) := Lib.hid fun W' h => PtsAt.below hpt h
      have hz1 : ((L.length : Int) == 0) = false := by rw [beq_eq_false_iff_ne]; omega
      have hz2 : (0 : Int) < (L.length : Int) := by omega
      have hz3 : ¬ L = [] := hLe
      have hoa := fun W (h : PtsAt W (.slice y.2.1 y.2.2.1 y.2.2.2) y.1.wv) (e : Env W) => own_eOffset y i k at_ W h e
      have hob := fun W (h : PtsAt W (.slice y.2.1 y.2.2.1 y.2.2.2) y.1.wv) => r28_offset y i k at_ W h
      generalize ofsT y.1 i k at_ = T at *
      obtain ⟨tt, tm⟩ := T
      dsimp only at hoa hob
      clear hL hC hcell hy hbb hpt hR hH
      have HAW := Lib.hid haw; clear haw
      have HFE := Lib.hid hfe; clear hfe
      have HFI := Lib.hid hfi; clear hfi
      have HRI := Lib.hid hri; clear hri
      have HCK := Lib.hid hck; clear hck
      have HCR := Lib.hid hcr; clear hcr
      have HOA := Lib.hid hoa; clear hoa
      have HOB := Lib.hid hob; clear hob
      by_cases h40 : (40 : Int) < (y.2.2.1 : Int)
      · go_enter Tryz.func7, Tryz.ntmps7
        go_upto_region 7 with (first | (with_reducible refine ((HFE.out _).mono ?_); rintro e w' ⟨rfl, hb⟩; replace HM := Lib.hid (HM.out.keep hb); clear m0 m1 m2 mf0 mf1 mf2; replace HL := Lib.hid (EfsAt.kept HL.out hb); replace HB := Lib.hid (bch' HB.out hb); clear hb; obtain ⟨m0, m1, m2, mf0, mf1, mf2⟩ := HM.out.c3) | (with_reducible refine ((HFI.out _ HL.out).mono ?_); rintro e w' ⟨rfl, hb⟩; replace HM := Lib.hid (HM.out.keep hb); clear m0 m1 m2 mf0 mf1 mf2; replace HL := Lib.hid (EfsAt.kept HL.out hb); replace HB := Lib.hid (bch' HB.out hb); clear hb; obtain ⟨m0, m1, m2, mf0, mf1, mf2⟩ := HM.out.c3) | (with_reducible refine ((HRI.out _ HL.out).mono ?_); rintro e w' ⟨rfl, hb⟩; replace HM := Lib.hid (HM.out.keep hb); clear m0 m1 m2 mf0 mf1 mf2; replace HL := Lib.hid (EfsAt.kept HL.out hb); replace HB := Lib.hid (bch' HB.out hb); clear hb; obtain ⟨m0, m1, m2, mf0, mf1, mf2⟩ := HM.out.c3) | (with_reducible refine ((HAW.out _ (ENV.out.below HB.out)).mono ?_); rintro e w' ⟨rfl, hb⟩; replace HM := Lib.hid (HM.out.keep hb); clear m0 m1 m2 mf0 mf1 mf2; replace HL := Lib.hid (EfsAt.kept HL.out hb); replace HB := Lib.hid (bch' HB.out hb); clear hb; obtain ⟨m0, m1, m2, mf0, mf1, mf2⟩ := HM.out.c3) | (with_reducible refine ((HCK.out _ HL.out).mono ?_); rintro e w' ⟨rfl, hb⟩; replace HM := Lib.hid (HM.out.keep hb); clear m0 m1 m2 mf0 mf1 mf2; replace HL := Lib.hid (EfsAt.kept HL.out hb); replace HB := Lib.hid (bch' HB.out hb); clear hb; obtain ⟨m0, m1, m2, mf0, mf1, mf2⟩ := HM.out.c3) | (with_reducible refine ((HCR.out _ HL.out).mono ?_); rintro e w' ⟨rfl, hb⟩; replace HM := Lib.hid (HM.out.keep hb); clear m0 m1 m2 mf0 mf1 mf2; replace HL := Lib.hid (EfsAt.kept HL.out hb); replace HB := Lib.hid (bch' HB.out hb); clear hb; obtain ⟨m0, m1, m2, mf0, mf1, mf2⟩ := HM.out.c3))
        have e2 : w'.cell? ⟨b, o + 2, none⟩ = some (.slice y.2.1 y.2.2.1 y.2.2.2) := (HB.out.cell (p := ⟨b, o + 2, none⟩) HBb.out).trans HE2.out
        have hbr : b < w'.heap.size := Nat.lt_of_lt_of_le HBb.out HB.out.size
        go_wp2_with fail
        go_ret
        exact ⟨rfl, HB.out⟩
      · go_enter Tryz.func7, Tryz.ntmps7
        go_upto_region 7 with (first | (with_reducible refine ((HFE.out _).mono ?_); rintro e w' ⟨rfl, hb⟩; replace HM := Lib.hid (HM.out.keep hb); clear m0 m1 m2 mf0 mf1 mf2; replace HL := Lib.hid (EfsAt.kept HL.out hb); replace HB := Lib.hid (bch' HB.out hb); clear hb; obtain ⟨m0, m1, m2, mf0, mf1, mf2⟩ := HM.out.c3) | (with_reducible refine ((HFI.out _ HL.out).mono ?_); rintro e w' ⟨rfl, hb⟩; replace HM := Lib.hid (HM.out.keep hb); clear m0 m1 m2 mf0 mf1 mf2; replace HL := Lib.hid (EfsAt.kept HL.out hb); replace HB := Lib.hid (bch' HB.out hb); clear hb; obtain ⟨m0, m1, m2, mf0, mf1, mf2⟩ := HM.out.c3) | (with_reducible refine ((HRI.out _ HL.out).mono ?_); rintro e w' ⟨rfl, hb⟩; replace HM := Lib.hid (HM.out.keep hb); clear m0 m1 m2 mf0 mf1 mf2; replace HL := Lib.hid (EfsAt.kept HL.out hb); replace HB := Lib.hid (bch' HB.out hb); clear hb; obtain ⟨m0, m1, m2, mf0, mf1, mf2⟩ := HM.out.c3) | (with_reducible refine ((HAW.out _ (ENV.out.below HB.out)).mono ?_); rintro e w' ⟨rfl, hb⟩; replace HM := Lib.hid (HM.out.keep hb); clear m0 m1 m2 mf0 mf1 mf2; replace HL := Lib.hid (EfsAt.kept HL.out hb); replace HB := Lib.hid (bch' HB.out hb); clear hb; obtain ⟨m0, m1, m2, mf0, mf1, mf2⟩ := HM.out.c3) | (with_reducible refine ((HCK.out _ HL.out).mono ?_); rintro e w' ⟨rfl, hb⟩; replace HM := Lib.hid (HM.out.keep hb); clear m0 m1 m2 mf0 mf1 mf2; replace HL := Lib.hid (EfsAt.kept HL.out hb); replace HB := Lib.hid (bch' HB.out hb); clear hb; obtain ⟨m0, m1, m2, mf0, mf1, mf2⟩ := HM.out.c3) | (with_reducible refine ((HCR.out _ HL.out).mono ?_); rintro e w' ⟨rfl, hb⟩; replace HM := Lib.hid (HM.out.keep hb); clear m0 m1 m2 mf0 mf1 mf2; replace HL := Lib.hid (EfsAt.kept HL.out hb); replace HB := Lib.hid (bch' HB.out hb); clear hb; obtain ⟨m0, m1, m2, mf0, mf1, mf2⟩ := HM.out.c3))
        have e2 : w'.cell? ⟨b, o + 2, none⟩ = some (.slice y.2.1 y.2.2.1 y.2.2.2) := (HB.out.cell (p := ⟨b, o + 2, none⟩) HBb.out).trans HE2.out
        have hbr : b < w'.heap.size := Nat.lt_of_lt_of_le HBb.out HB.out.size
        go_wp2_with fail
        clear e2 hbr HL HFI HRI HCK HCR HAW HFE
        have e0 := fun p : BelowOf _ => ((bch' HB.out p.h).cell (p := ⟨b, o, none⟩) HBb.out).trans HE0.out
        have e1 := fun p : BelowOf _ => ((bch' HB.out p.h).cell (p := ⟨b, o + 1, none⟩) HBb.out).trans HE1.out
        have e2 := fun p : BelowOf _ => ((bch' HB.out p.h).cell (p := ⟨b, o + 2, none⟩) HBb.out).trans HE2.out
        have e3 := fun p : BelowOf _ => ((bch' HB.out p.h).cell (p := ⟨b, o + 3, none⟩) HBb.out).trans HE3.out
        have e4 := fun p : BelowOf _ => ((bch' HB.out p.h).cell (p := ⟨b, o + 4, none⟩) HBb.out).trans HE4.out
        have e5 := fun p : BelowOf _ => ((bch' HB.out p.h).cell (p := ⟨b, o + 5, none⟩) HBb.out).trans HE5.out
        have g0 := fun p : BelowOf _ => (HM.out.keep p.h).c3.1
        have g1 := fun p : BelowOf _ => (HM.out.keep p.h).c3.2.1
        have g2 := fun p : BelowOf _ => (HM.out.keep p.h).c3.2.2.1
        refine wp_region_WQ (by kernel_rfl) (by kernel_rfl) ?_
        repeat (refine WQ.step (fun K hK => ?_); go_simp; first | (refine hK.out _ ?_; clear hK K) | (apply Exists.intro; refine ⟨fun _ => ?_, hK.out _ ?_⟩; (first | rfl | (go_at_call 23; exact calls_below_of _ (HOA.out _ (HPT.out _ (bch' HB.out (BelowOf.h _))) (ENV.out.below (bch' HB.out (BelowOf.h _)))))); clear hK K))
        refine WQ.nil ?_
        intro _ hw'
        obtain ⟨⟨wq, hbq⟩, hw2⟩ := hw'
        subst hw2
        replace HM := Lib.hid (HM.out.keep hbq)
        replace HB := Lib.hid (bch' HB.out hbq)
        clear e0 e1 e2 e3 e4 e5 g0 g1 g2
        clear m0 m1 m2 mf0 mf1 mf2
        obtain ⟨m0, m1, m2, mf0, mf1, mf2⟩ := HM.out.c3
        go_wp2_with fail
        have e0 := fun p : BelowOf _ => ((bch' HB.out p.h).cell (p := ⟨b, o, none⟩) HBb.out).trans HE0.out
        have e1 := fun p : BelowOf _ => ((bch' HB.out p.h).cell (p := ⟨b, o + 1, none⟩) HBb.out).trans HE1.out
        have e2 := fun p : BelowOf _ => ((bch' HB.out p.h).cell (p := ⟨b, o + 2, none⟩) HBb.out).trans HE2.out
        have e3 := fun p : BelowOf _ => ((bch' HB.out p.h).cell (p := ⟨b, o + 3, none⟩) HBb.out).trans HE3.out
        have e4 := fun p : BelowOf _ => ((bch' HB.out p.h).cell (p := ⟨b, o + 4, none⟩) HBb.out).trans HE4.out
        have e5 := fun p : BelowOf _ => ((bch' HB.out p.h).cell (p := ⟨b, o + 5, none⟩) HBb.out).trans HE5.out
        have g0 := fun p : BelowOf _ => (HM.out.keep p.h).c3.1
        have g1 := fun p : BelowOf _ => (HM.out.keep p.h).c3.2.1
        have g2 := fun p : BelowOf _ => (HM.out.keep p.h).c3.2.2.1
        refine wp_region_WQ (by kernel_rfl) (by kernel_rfl) ?_
        repeat (refine WQ.step (fun K hK => ?_); go_simp; first | (refine hK.out _ ?_; clear hK K) | (apply Exists.intro; refine ⟨fun _ => ?_, hK.out _ ?_⟩; (first | rfl | (go_at_call 37; exact calls_below_of _ (HOB.out _ (HPT.out _ (bch' HB.out (BelowOf.h _)))))); clear hK K))
        refine WQ.nil ?_
        intro _ hw'
        obtain ⟨⟨wq, hbq⟩, hw2⟩ := hw'
        subst hw2
        replace HM := Lib.hid (HM.out.keep hbq)
        replace HB := Lib.hid (bch' HB.out hbq)
        clear e0 e1 e2 e3 e4 e5 g0 g1 g2
        clear m0 m1 m2 mf0 mf1 mf2
        obtain ⟨m0, m1, m2, mf0, mf1, mf2⟩ := HM.out.c3
        go_wp2_with fail
        go_ret
        exact ⟨rfl, HB.out⟩
end Go.Proofs.YtbamcfhmkohbmaaGreatDoor
