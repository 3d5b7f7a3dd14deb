/-
  
-/
import Derived.Test.YtbeojahilbglcaaGreatDoorQsYn
import Derived.Test.YtbeojahilbglcaaGreatDoorQsYs
import Derived.Test.YtbeojahilbglcaaGreatDoorQsYf
set_option linter.unusedVariables false
set_option linter.unusedSimpArgs false
set_option maxRecDepth 100000
set_option maxHeartbeats 4000000
namespace Lum
open Go Go.RowKit Go.Shelf
open Go.Lib (decDigits itoa)
theorem fst_at {α β:Type} {L:List (α × β)} {R:List α} (hM:L.map (fun x => x.1) = R) {k:Nat} (h1:k < L.length) (h2:k < R.length):R[k]'h2 = (L[k]'h1).1:=by subst hM;rw [List.getElem_map]
theorem place_at {L:List Efx} {n:Int} {k:Nat} (hb:Belongs (keyAt (·.nu) L) L.length n k true):ixOf (fun x:Efx => x.nu == n) L = (k:Int):=hb.ix
theorem place_no {L:List Efx} {n:Int} (h:∀ j,j < L.length → keyAt (·.nu) L j ≠ n):ixOf (fun x:Efx => x.nu == n) L = -1:=ixOf_no fun j hj => by
  rw [beq_eq_false_iff_ne,← keyAt_at (key:=fun x:Efx => x.nu) hj];exact h j hj
theorem run_no {R:List Rnx} {n:Int} (h:∀ j,j < R.length → keyAt (·.ef) R j ≠ n):ixOf (fun x:Rnx => x.ef == n) R = -1:=ixOf_no fun j hj => by
  rw [beq_eq_false_iff_ne,← keyAt_at (key:=fun x:Rnx => x.ef) hj];exact h j hj
end Lum
namespace Go.Proofs.YtbeojahilbglcaaGreatDoor
open Go.RowKit Go.Shelf Lum
open Go.Lib (decDigits itoa)
attribute [local go_sem] bs_get bs_extract_end bs_extract_from bs_extract bs_append
theorem r15_paE (ch a : Int) (w : World) :
    Calls Tryz.prog 63 #[.agg #[.int .i64 ch,.int .i64 a]] w fun e w' => e = .returned (.int .i64 (paE ch a)) ∧ Below w.heap.size w w':=by
  have HP:=Lib.hid (Blk.new w 45 #[.int .i64 ch,.int .i64 a])
  have HB:=Lib.hid ((Below.refl w.heap.size w).alloc (Nat.le_refl _) (.cells #[.int .i64 ch,.int .i64 a] 45))
  obtain ⟨q0,q1,qf0,qf1⟩:=HP.out.c2
  by_cases o0:ch < 1
  · rw [paE_out (by omega)]
    go_enter Tryz.func63,Tryz.ntmps63
    go_wp2_with fail
    go_ret
    exact ⟨rfl,HB.out⟩
  by_cases o1:999 < ch
  · rw [paE_out (by omega)]
    go_enter Tryz.func63,Tryz.ntmps63
    go_wp2_with fail
    go_ret
    exact ⟨rfl,HB.out⟩
  by_cases o2:a < 0
  · rw [paE_out (by omega)]
    go_enter Tryz.func63,Tryz.ntmps63
    go_wp2_with fail
    go_ret
    exact ⟨rfl,HB.out⟩
  by_cases o3:15 ≤ a
  · rw [paE_out (by omega)]
    go_enter Tryz.func63,Tryz.ntmps63
    go_wp2_with fail
    go_ret
    exact ⟨rfl,HB.out⟩
  rw [paE_in (by omega)]
  go_enter Tryz.func63,Tryz.ntmps63
  go_wp2_with fail
  go_ret
  exact ⟨rfl,HB.out⟩
theorem r28_member (cs : List Int) (p : Option Addr) (c : Nat) (ch : Int) (w : World) (hv : IntsAt w (.slice p cs.length c) cs) (hn : cs.length ≤ 1000000) :
    Calls Tryz.prog 95 #[.slice p cs.length c,.int .i64 ch] w fun e w' => e = .returned (.int .i64 (memI cs ch)) ∧ w = w':=by
  obtain ⟨p',c',e9,hp9⟩:=hv
  injection e9 with e1 e2 e3
  subst e1
  have hp:=Lib.hid hp9;have HN:=Lib.hid hn;clear hp9 e2 e3
  go_enter Tryz.func95,Tryz.ntmps95
  go_wp2_with fail
  go_loopw [5] (fun s wr => ∃ k:Nat,s = .int .i64 (k:Int) ∧ w = wr ∧ k ≤ cs.length ∧ Hid (∀ j,j < k → inI cs j ≠ ch)) (fun s _ => cs.length - (intOf s).toNat)
  case atStart => exact ⟨0,rfl,rfl,by omega,Lib.hid (fun j hj => absurd hj (Nat.not_lt_zero _))⟩
  case round =>
    obtain ⟨k,rfl,rfl,h5,HF⟩:=hrel
    by_cases h3:k < cs.length
    · have hlt:(k:Int) < (cs.length:Int):=by omega
      have hk0:(0:Int) ≤ (k:Int):=by omega
      have hun:IntKind.i64.wrap ((k:Int) + 1) = (k:Int) + 1:=IntWalk.i64_in _ (by have:=HN.out;omega)
      obtain ⟨b,o,rfl,hb,hC⟩:=hp.out (fun h => by subst h;simp at h3)
      have y0:=hC k h3
      clear hC
      by_cases hc:inI cs k = ch
      · have heq:((inI cs k:Int) == ch) = true:=by rw [beq_iff_eq];exact hc
        have HM:Hid (memI cs ch = (k:Int)):=Lib.hid (mem_found h3 hc HF.out)
        clear hc
        generalize inI cs k = z at *
        go_wp2_with fail
        go_ret
        exact ⟨by rw [HM.out];rfl,rfl⟩
      · have heq:((inI cs k:Int) == ch) = false:=by rw [beq_eq_false_iff_ne];exact hc
        have HF2:Hid (∀ j,j < k + 1 → inI cs j ≠ ch):=Lib.hid (fun j hj => by by_cases e:j = k;(subst e;exact hc);exact HF.out j (by omega))
        clear hc
        generalize inI cs k = z at *
        go_wp2_with fail
        go_roundw
        case rel => exact ⟨k + 1,by first | rfl | simp,by trivial,by omega,HF2⟩
        case measure => first | (simp [intOf];done) | (simp [intOf];omega)
    · have hlt:¬ (k:Int) < (cs.length:Int):=by omega
      have HM:Hid (memI cs ch = -1):=Lib.hid (mem_none (fun j hj => HF.out j (by omega)))
      go_wp2_with fail
      go_ret
      exact ⟨by rw [HM.out];rfl,rfl⟩
theorem r28_both (L : List Efx) (R : List Rnx) (v u : Value) (ch a : Int) (w : World) (hl : EfsAt w v L) (hu : RunsAt w u R) :
    Calls Tryz.prog 49 #[v,u,.agg #[.int .i64 ch,.int .i64 a]] w fun e w' => e = .returned (.int .i64 (pbE L R ch a)) ∧ Below w.heap.size w w':=by
  have hc:=fun W (h:EfsAt W v L) => r28_check L v W h
  have hr:=fun W (h:RunsAt W u R) => r28_runs R u W h
  change ∀ W,EfsAt W v L → Calls _ _ _ _ (fun e w' => e = .returned (.int .i64 (efsE L)) ∧ _) at hc
  change ∀ W,RunsAt W u R → Calls _ _ _ _ (fun e w' => e = .returned (.int .i64 (rnsE R)) ∧ _) at hr
  have hp0:=fun W => r15_paE ch a W
  have hal:=(Below.refl w.heap.size w).alloc (Nat.le_refl _) (.cells #[.int .i64 ch,.int .i64 a] 45)
  have HE:=Lib.hid (EfsAt.kept hl hal);have HN:=Lib.hid (RunsAt.kept hu hal);have HB:=Lib.hid hal;clear hal hl hu
  have HP:=Lib.hid (Blk.new w 45 #[.int .i64 ch,.int .i64 a])
  obtain ⟨q0,q1,qf0,qf1⟩:=HP.out.c2
  by_cases h1:efsE L = 0
  · by_cases h2:rnsE R = 0
    · rw [pbE_pa (by rw [boE_rn h1];exact h2)]
      rw [h1] at hc
      rw [h2] at hr
      clear h1 h2
      generalize paE ch a = m at *
      have HC:=Lib.hid hc;clear hc
      have HR:=Lib.hid hr;clear hr
      have HP0:=Lib.hid hp0;clear hp0
      go_enter Tryz.func49,Tryz.ntmps49
      go_wp2_with (first | (with_reducible refine ((HC.out _ HE.out).mono ?_);rintro e w' ⟨rfl,hb⟩;replace HP:=Lib.hid (HP.out.keep hb);clear q0 q1 qf0 qf1;replace HE:=Lib.hid (EfsAt.kept HE.out hb);replace HN:=Lib.hid (RunsAt.kept HN.out hb);replace HB:=Lib.hid (bch' HB.out hb);clear hb;obtain ⟨q0,q1,qf0,qf1⟩:=HP.out.c2) | (with_reducible refine ((HR.out _ HN.out).mono ?_);rintro e w' ⟨rfl,hb⟩;replace HP:=Lib.hid (HP.out.keep hb);clear q0 q1 qf0 qf1;replace HE:=Lib.hid (EfsAt.kept HE.out hb);replace HN:=Lib.hid (RunsAt.kept HN.out hb);replace HB:=Lib.hid (bch' HB.out hb);clear hb;obtain ⟨q0,q1,qf0,qf1⟩:=HP.out.c2) | (with_reducible refine ((HP0.out _).mono ?_);rintro e w' ⟨rfl,hb⟩;replace HP:=Lib.hid (HP.out.keep hb);clear q0 q1 qf0 qf1;replace HE:=Lib.hid (EfsAt.kept HE.out hb);replace HN:=Lib.hid (RunsAt.kept HN.out hb);replace HB:=Lib.hid (bch' HB.out hb);clear hb;obtain ⟨q0,q1,qf0,qf1⟩:=HP.out.c2))
      go_ret
      exact ⟨rfl,HB.out⟩
    · rw [pbE_bo (by rw [boE_rn h1];exact h2),boE_rn h1]
      rw [h1] at hc
      have hne:((rnsE R:Int) != 0) = true:=by simpa using h2
      clear h1 h2
      generalize rnsE R = m at *
      have HC:=Lib.hid hc;clear hc
      have HR:=Lib.hid hr;clear hr
      go_enter Tryz.func49,Tryz.ntmps49
      go_wp2_with (first | (with_reducible refine ((HC.out _ HE.out).mono ?_);rintro e w' ⟨rfl,hb⟩;replace HP:=Lib.hid (HP.out.keep hb);clear q0 q1 qf0 qf1;replace HE:=Lib.hid (EfsAt.kept HE.out hb);replace HN:=Lib.hid (RunsAt.kept HN.out hb);replace HB:=Lib.hid (bch' HB.out hb);clear hb;obtain ⟨q0,q1,qf0,qf1⟩:=HP.out.c2) | (with_reducible refine ((HR.out _ HN.out).mono ?_);rintro e w' ⟨rfl,hb⟩;replace HP:=Lib.hid (HP.out.keep hb);clear q0 q1 qf0 qf1;replace HE:=Lib.hid (EfsAt.kept HE.out hb);replace HN:=Lib.hid (RunsAt.kept HN.out hb);replace HB:=Lib.hid (bch' HB.out hb);clear hb;obtain ⟨q0,q1,qf0,qf1⟩:=HP.out.c2))
      go_ret
      exact ⟨rfl,HB.out⟩
  · rw [pbE_bo (by rw [boE_ef h1];exact h1),boE_ef h1]
    have hne:((efsE L:Int) != 0) = true:=by simpa using h1
    clear h1
    generalize efsE L = m at *
    have HC:=Lib.hid hc;clear hc
    go_enter Tryz.func49,Tryz.ntmps49
    go_wp2_with (first | (with_reducible refine ((HC.out _ HE.out).mono ?_);rintro e w' ⟨rfl,hb⟩;replace HP:=Lib.hid (HP.out.keep hb);clear q0 q1 qf0 qf1;replace HE:=Lib.hid (EfsAt.kept HE.out hb);replace HN:=Lib.hid (RunsAt.kept HN.out hb);replace HB:=Lib.hid (bch' HB.out hb);clear hb;obtain ⟨q0,q1,qf0,qf1⟩:=HP.out.c2))
    go_ret
    exact ⟨rfl,HB.out⟩
theorem r28_told (L : List Efx) (v : Value) (x : Rnx) (p : Option Addr) (c : Nat) (t ch a : Int) (w : World) (hl : EfsAt w v L) (hi : IntsAt w (.slice p x.cs.length c) x.cs) (hok : OrdOk efE (·.nu) L) (hx : RnOk x) (hz : moE x.ce x.cr x.cd x.cl t = 0) :
    Calls Tryz.prog 51 #[v,.agg #[.int .i64 (x.ef),.slice p x.cs.length c,.int .i64 (x.ce),.int .i64 (x.cr),.int .i64 (x.cd),.int .i64 (x.cl)],.int .i64 t,.agg #[.int .i64 ch,.int .i64 a]] w fun e w' => e = .returned (.string ⟨(showR (toldQ L x t ch a)).toArray⟩) ∧ Below w.heap.size w w':=by
  obtain ⟨k,hit,hq⟩:=belongs_key hok x.ef
  cases hit with
  | false =>
    have hpl:=fun W (h:EfsAt W v L) => r28_place x.ef L v W h (by have:=hok.few;omega)
    have hme:=fun W (h:IntsAt W (.slice p x.cs.length c) x.cs) => r28_member x.cs p c ch W h (by have:=hx.ch.few;omega)
    have hal:=((Below.refl w.heap.size w).alloc (Nat.le_refl _) (.cells #[.int .i64 (x.ef),.slice p x.cs.length c,.int .i64 (x.ce),.int .i64 (x.cr),.int .i64 (x.cd),.int .i64 (x.cl)] 68)).alloc (by simp) (.cells #[.int .i64 ch,.int .i64 a] 45)
    have HE:=Lib.hid (EfsAt.kept hl hal);have HI:=Lib.hid (IntsAt.below hi hal);have HB0:=Lib.hid hal;clear hal
    have HX1:=Lib.hid ((Blk.new w 68 #[.int .i64 (x.ef),.slice p x.cs.length c,.int .i64 (x.ce),.int .i64 (x.cr),.int .i64 (x.cd),.int .i64 (x.cl)]).alloc (.cells #[.int .i64 ch,.int .i64 a] 45))
    have hA:=Blk.new (w.alloc (.cells #[.int .i64 (x.ef),.slice p x.cs.length c,.int .i64 (x.ce),.int .i64 (x.cr),.int .i64 (x.cd),.int .i64 (x.cl)] 68)) 45 #[.int .i64 ch,.int .i64 a]
    rw [World.size_alloc] at hA
    have HP1:=Lib.hid hA;clear hA
    rw [place_no hq.miss] at hpl
    have HZ:Hid (toldQ L x t ch a = 0):=Lib.hid (toldQ_not hq.miss)
    generalize memI x.cs ch = mm at *
    clear hl hi hok hx hz hq
    have HPL:=Lib.hid hpl;clear hpl
    have HME:=Lib.hid hme;clear hme
    go_enter Tryz.func51,Tryz.ntmps51
    go_upto_region 1 with fail
    obtain ⟨W2,hW2⟩:∃ X,X = (w.alloc (.cells #[.int .i64 (x.ef),.slice p x.cs.length c,.int .i64 (x.ce),.int .i64 (x.cr),.int .i64 (x.cd),.int .i64 (x.cl)] 68)).alloc (.cells #[.int .i64 ch,.int .i64 a] 45):=⟨_,rfl⟩
    rw [← hW2] at HE HI HB0 HX1 HP1 ⊢
    clear hW2
    have HB:=Lib.hid (Below.refl W2.heap.size W2)
    have r0f:=fun p:BelowOf _ => (HX1.out.keep (bch' HB.out p.h)).c6.1
    have r1f:=fun p:BelowOf _ => (HX1.out.keep (bch' HB.out p.h)).c6.2.1
    have q0f:=fun p:BelowOf _ => (HP1.out.keep (bch' HB.out p.h)).c2.1
    refine wp_region_WQ (by kernel_rfl) (by kernel_rfl) ?_
    repeat (refine WQ.step (fun K hK => ?_);go_simp;first | (refine hK.out _ ?_;clear hK K) | (apply Exists.intro;refine ⟨fun _ => ?_,hK.out _ ?_⟩;(first | rfl | (go_at_call 94;exact calls_below_of _ (HPL.out _ (EfsAt.kept HE.out (bch' HB.out (BelowOf.h _))))) | (go_at_call 95;exact calls_below_same _ (HME.out _ (IntsAt.below HI.out (bch' HB.out (BelowOf.h _))))));clear hK K))
    refine WQ.nil ?_
    intro _ hw'
    obtain ⟨⟨wq,hbq⟩,hw2⟩:=hw'
    subst hw2
    replace HB:=Lib.hid (bch' HB.out hbq)
    clear r0f r1f q0f
    go_upto_region 2 with fail
    refine wp_region_WQ (by kernel_rfl) (by kernel_rfl) ?_
    repeat (refine WQ.step (fun K hK => ?_);go_simp;first | (refine hK.out _ ?_;clear hK K) | (apply Exists.intro;refine ⟨fun _ => ?_,hK.out _ ?_⟩;(first | rfl);clear hK K))
    refine WQ.nil ?_
    intro _ hw'
    obtain ⟨⟨wr,hbr⟩,hw2⟩:=hw'
    subst hw2
    replace HB:=Lib.hid (bch' HB.out hbr)
    go_wp2_with fail
    go_ret
    exact ⟨by rw [HZ.out,showR_zero];rfl,bch' HB0.out HB.out⟩
  | true =>
    rcases memI_range x.cs ch with hm | hm
    · have hpl:=fun W (h:EfsAt W v L) => r28_place x.ef L v W h (by have:=hok.few;omega)
      have hme:=fun W (h:IntsAt W (.slice p x.cs.length c) x.cs) => r28_member x.cs p c ch W h (by have:=hx.ch.few;omega)
      have hal:=((Below.refl w.heap.size w).alloc (Nat.le_refl _) (.cells #[.int .i64 (x.ef),.slice p x.cs.length c,.int .i64 (x.ce),.int .i64 (x.cr),.int .i64 (x.cd),.int .i64 (x.cl)] 68)).alloc (by simp) (.cells #[.int .i64 ch,.int .i64 a] 45)
      have HE:=Lib.hid (EfsAt.kept hl hal);have HI:=Lib.hid (IntsAt.below hi hal);have HB0:=Lib.hid hal;clear hal
      have HX1:=Lib.hid ((Blk.new w 68 #[.int .i64 (x.ef),.slice p x.cs.length c,.int .i64 (x.ce),.int .i64 (x.cr),.int .i64 (x.cd),.int .i64 (x.cl)]).alloc (.cells #[.int .i64 ch,.int .i64 a] 45))
      have hA:=Blk.new (w.alloc (.cells #[.int .i64 (x.ef),.slice p x.cs.length c,.int .i64 (x.ce),.int .i64 (x.cr),.int .i64 (x.cd),.int .i64 (x.cl)] 68)) 45 #[.int .i64 ch,.int .i64 a]
      rw [World.size_alloc] at hA
      have HP1:=Lib.hid hA;clear hA
      rw [place_at hq] at hpl
      rw [hm] at hme
      have HZ:Hid (toldQ L x t ch a = 0):=Lib.hid (toldQ_gone hq hm)
      have hk0:¬ (k:Int) < 0:=by omega
      clear hl hi hok hx hz hq hm
      have HPL:=Lib.hid hpl;clear hpl
      have HME:=Lib.hid hme;clear hme
      go_enter Tryz.func51,Tryz.ntmps51
      go_upto_region 1 with fail
      obtain ⟨W2,hW2⟩:∃ X,X = (w.alloc (.cells #[.int .i64 (x.ef),.slice p x.cs.length c,.int .i64 (x.ce),.int .i64 (x.cr),.int .i64 (x.cd),.int .i64 (x.cl)] 68)).alloc (.cells #[.int .i64 ch,.int .i64 a] 45):=⟨_,rfl⟩
      rw [← hW2] at HE HI HB0 HX1 HP1 ⊢
      clear hW2
      have HB:=Lib.hid (Below.refl W2.heap.size W2)
      have r0f:=fun p:BelowOf _ => (HX1.out.keep (bch' HB.out p.h)).c6.1
      have r1f:=fun p:BelowOf _ => (HX1.out.keep (bch' HB.out p.h)).c6.2.1
      have q0f:=fun p:BelowOf _ => (HP1.out.keep (bch' HB.out p.h)).c2.1
      refine wp_region_WQ (by kernel_rfl) (by kernel_rfl) ?_
      repeat (refine WQ.step (fun K hK => ?_);go_simp;first | (refine hK.out _ ?_;clear hK K) | (apply Exists.intro;refine ⟨fun _ => ?_,hK.out _ ?_⟩;(first | rfl | (go_at_call 94;exact calls_below_of _ (HPL.out _ (EfsAt.kept HE.out (bch' HB.out (BelowOf.h _))))) | (go_at_call 95;exact calls_below_same _ (HME.out _ (IntsAt.below HI.out (bch' HB.out (BelowOf.h _))))));clear hK K))
      refine WQ.nil ?_
      intro _ hw'
      obtain ⟨⟨wq,hbq⟩,hw2⟩:=hw'
      subst hw2
      replace HB:=Lib.hid (bch' HB.out hbq)
      clear r0f r1f q0f
      go_upto_region 2 with fail
      refine wp_region_WQ (by kernel_rfl) (by kernel_rfl) ?_
      repeat (refine WQ.step (fun K hK => ?_);go_simp;first | (refine hK.out _ ?_;clear hK K) | (apply Exists.intro;refine ⟨fun _ => ?_,hK.out _ ?_⟩;(first | rfl);clear hK K))
      refine WQ.nil ?_
      intro _ hw'
      obtain ⟨⟨wr,hbr⟩,hw2⟩:=hw'
      subst hw2
      replace HB:=Lib.hid (bch' HB.out hbr)
      go_wp2_with fail
      go_ret
      exact ⟨by rw [HZ.out,showR_zero];rfl,bch' HB0.out HB.out⟩
    · obtain ⟨m,hm⟩:∃ m:Nat,memI x.cs ch = (m:Int):=⟨(memI x.cs ch).toNat,by omega⟩
      by_cases ha:(L[k]'(hq.yes rfl).1).at_ = a
      · have hpl:=fun W (h:EfsAt W v L) => r28_place x.ef L v W h (by have:=hok.few;omega)
        have hme:=fun W (h:IntsAt W (.slice p x.cs.length c) x.cs) => r28_member x.cs p c ch W h (by have:=hx.ch.few;omega)
        have hal:=((Below.refl w.heap.size w).alloc (Nat.le_refl _) (.cells #[.int .i64 (x.ef),.slice p x.cs.length c,.int .i64 (x.ce),.int .i64 (x.cr),.int .i64 (x.cd),.int .i64 (x.cl)] 68)).alloc (by simp) (.cells #[.int .i64 ch,.int .i64 a] 45)
        have HE:=Lib.hid (EfsAt.kept hl hal);have HI:=Lib.hid (IntsAt.below hi hal);have HB0:=Lib.hid hal;clear hal
        have HX1:=Lib.hid ((Blk.new w 68 #[.int .i64 (x.ef),.slice p x.cs.length c,.int .i64 (x.ce),.int .i64 (x.cr),.int .i64 (x.cd),.int .i64 (x.cl)]).alloc (.cells #[.int .i64 ch,.int .i64 a] 45))
        have hA:=Blk.new (w.alloc (.cells #[.int .i64 (x.ef),.slice p x.cs.length c,.int .i64 (x.ce),.int .i64 (x.cr),.int .i64 (x.cd),.int .i64 (x.cl)] 68)) 45 #[.int .i64 ch,.int .i64 a]
        rw [World.size_alloc] at hA
        have HP1:=Lib.hid hA;clear hA
        rw [place_at hq] at hpl
        have hof:=ofC_of hx hz (by rw [hm];omega:¬ memI x.cs ch < 0)
        rw [hm] at hof
        have hth:=toldQ_here (t:=t) hq ha hm
        rw [hm] at hme
        have hyok:=efOk (hok.ok k (hq.yes rfl).1)
        have hkl:=(hq.yes rfl).1
        obtain ⟨M,pm,cm,rfl,hM,hMR,hMW⟩:=hl
        have hkm:k < M.length:=by rw [← hM,List.length_map] at hkl;exact hkl
        obtain ⟨y,hy⟩:∃ y,y = M[k]'hkm:=⟨_,rfl⟩
        have hyl:L[k]'hkl = y.1:=by subst hM;rw [List.getElem_map,hy]
        obtain ⟨bb,oo,rfl,hbb,hCC⟩:=hMR (fun e => by subst e;exact absurd hkm (Nat.not_lt_zero _))
        have hcell:=hCC k hkm
        rw [← hy] at hcell
        have HBb:Hid (bb < w.heap.size):=Lib.hid hbb
        have HY0:=Lib.hid (hcell 0 _ rfl);have HY1:=Lib.hid (hcell 1 _ rfl);have HY2:=Lib.hid (hcell 2 _ rfl);have HY3:=Lib.hid (hcell 3 _ rfl);have HY4:=Lib.hid (hcell 4 _ rfl);have HY5:=Lib.hid (hcell 5 _ rfl)
        have hki:(k:Int) < (M.length:Int):=by omega
        have hk0:(0:Int) ≤ (k:Int):=by omega
        have hkn:¬ (k:Int) < 0:=by omega
        have hlo:k * 6 < 9223372036854775807:=by have:=hok.few;omega
        rw [hyl] at ha hth hyok
        have hne:((y.1.at_:Int) != a) = false:=by rw [bne_eq_false_iff_eq];exact ha
        have hm0:¬ (m:Int) < 0:=by omega
        have hyw:=hMW y (by rw [hy];exact List.getElem_mem hkm)
        obtain ⟨k1,k2,k3⟩:=moE_zero hz
        have hsh:=fun W => r23_shown x.ce x.cr x.cd x.cl t W k1 k2 k3
        have hmo:=fun W (h:PtsAt W (.slice y.2.1 y.2.2.1 y.2.2.2) y.1.wv) => r28_moved y (m:Int) x.cs.length (shZ x.ce x.cr x.cd x.cl t) W h hyok hof
        have HTH:=Lib.hid hth;have HYW:=Lib.hid hyw
        generalize shZ x.ce x.cr x.cd x.cl t = sh at *
        clear hi hok hx hz hq hm ha hM hMR hMW hCC hcell hy hyl hbb hkl hof hth hyok hyw k1 k2 k3
        have HPL:=Lib.hid hpl;clear hpl
        have HME:=Lib.hid hme;clear hme
        have HSH:=Lib.hid hsh;clear hsh
        have HMO:=Lib.hid hmo;clear hmo
        go_enter Tryz.func51,Tryz.ntmps51
        go_upto_region 1 with fail
        obtain ⟨W2,hW2⟩:∃ X,X = (w.alloc (.cells #[.int .i64 (x.ef),.slice p x.cs.length c,.int .i64 (x.ce),.int .i64 (x.cr),.int .i64 (x.cd),.int .i64 (x.cl)] 68)).alloc (.cells #[.int .i64 ch,.int .i64 a] 45):=⟨_,rfl⟩
        rw [← hW2] at HE HI HB0 HX1 HP1 ⊢
        clear hW2
        have HB:=Lib.hid (Below.refl W2.heap.size W2)
        have r0f:=fun p:BelowOf _ => (HX1.out.keep (bch' HB.out p.h)).c6.1
        have r1f:=fun p:BelowOf _ => (HX1.out.keep (bch' HB.out p.h)).c6.2.1
        have q0f:=fun p:BelowOf _ => (HP1.out.keep (bch' HB.out p.h)).c2.1
        refine wp_region_WQ (by kernel_rfl) (by kernel_rfl) ?_
        repeat (refine WQ.step (fun K hK => ?_);go_simp;first | (refine hK.out _ ?_;clear hK K) | (apply Exists.intro;refine ⟨fun _ => ?_,hK.out _ ?_⟩;(first | rfl | (go_at_call 94;exact calls_below_of _ (HPL.out _ (EfsAt.kept HE.out (bch' HB.out (BelowOf.h _))))) | (go_at_call 95;exact calls_below_same _ (HME.out _ (IntsAt.below HI.out (bch' HB.out (BelowOf.h _))))));clear hK K))
        refine WQ.nil ?_
        intro _ hw'
        obtain ⟨⟨wq,hbq⟩,hw2⟩:=hw'
        subst hw2
        replace HB:=Lib.hid (bch' HB.out hbq)
        clear r0f r1f q0f
        go_upto_region 2 with fail
        have y1f:=fun p:BelowOf _ => ((bch' (bch' HB0.out HB.out) p.h).cell (p:=⟨bb,oo + k * 6 + 1,none⟩) HBb.out).trans HY1.out
        have zz:=fun p:BelowOf _ => Nat.lt_of_lt_of_le HBb.out (bch' (bch' HB0.out HB.out) p.h).size
        have q1f:=fun p:BelowOf _ => (HP1.out.keep (bch' HB.out p.h)).c2.2.1
        refine wp_region_WQ (by kernel_rfl) (by kernel_rfl) ?_
        repeat (refine WQ.step (fun K hK => ?_);go_simp;first | (refine hK.out _ ?_;clear hK K) | (apply Exists.intro;refine ⟨fun _ => ?_,hK.out _ ?_⟩;(first | rfl);clear hK K))
        refine WQ.nil ?_
        intro _ hw'
        obtain ⟨⟨wr,hbr⟩,hw2⟩:=hw'
        subst hw2
        replace HB:=Lib.hid (bch' HB.out hbr)
        clear y1f zz q1f
        go_upto_region 4 with fail
        have y0f:=fun p:BelowOf _ => ((bch' (bch' HB0.out HB.out) p.h).cell (p:=⟨bb,oo + k * 6,none⟩) HBb.out).trans HY0.out
        have y1f:=fun p:BelowOf _ => ((bch' (bch' HB0.out HB.out) p.h).cell (p:=⟨bb,oo + k * 6 + 1,none⟩) HBb.out).trans HY1.out
        have y2f:=fun p:BelowOf _ => ((bch' (bch' HB0.out HB.out) p.h).cell (p:=⟨bb,oo + k * 6 + 2,none⟩) HBb.out).trans HY2.out
        have y3f:=fun p:BelowOf _ => ((bch' (bch' HB0.out HB.out) p.h).cell (p:=⟨bb,oo + k * 6 + 3,none⟩) HBb.out).trans HY3.out
        have y4f:=fun p:BelowOf _ => ((bch' (bch' HB0.out HB.out) p.h).cell (p:=⟨bb,oo + k * 6 + 4,none⟩) HBb.out).trans HY4.out
        have y5f:=fun p:BelowOf _ => ((bch' (bch' HB0.out HB.out) p.h).cell (p:=⟨bb,oo + k * 6 + 5,none⟩) HBb.out).trans HY5.out
        have zz:=fun p:BelowOf _ => Nat.lt_of_lt_of_le HBb.out (bch' (bch' HB0.out HB.out) p.h).size
        have r1f:=fun p:BelowOf _ => (HX1.out.keep (bch' HB.out p.h)).c6.2.1
        have r2f:=fun p:BelowOf _ => (HX1.out.keep (bch' HB.out p.h)).c6.2.2.1
        have r3f:=fun p:BelowOf _ => (HX1.out.keep (bch' HB.out p.h)).c6.2.2.2.1
        have r4f:=fun p:BelowOf _ => (HX1.out.keep (bch' HB.out p.h)).c6.2.2.2.2.1
        have r5f:=fun p:BelowOf _ => (HX1.out.keep (bch' HB.out p.h)).c6.2.2.2.2.2.1
        refine wp_region_WQ (by kernel_rfl) (by kernel_rfl) ?_
        repeat (refine WQ.step (fun K hK => ?_);go_simp;first | (refine hK.out _ ?_;clear hK K) | (apply Exists.intro;refine ⟨fun _ => ?_,hK.out _ ?_⟩;(first | rfl | (go_at_call 93;exact calls_below_of _ (HSH.out _)) | (go_at_call 96;exact calls_below_of _ (HMO.out _ (PtsAt.below HYW.out (bch' (bch' HB0.out HB.out) (BelowOf.h _))))));clear hK K))
        refine WQ.nil ?_
        intro _ hw'
        obtain ⟨⟨ws,hbs⟩,hw2⟩:=hw'
        subst hw2
        replace HB:=Lib.hid (bch' HB.out hbs)
        clear y0f y1f y2f y3f y4f y5f zz r1f r2f r3f r4f r5f
        go_wp2_with fail
        go_ret
        exact ⟨by rw [HTH.out];rfl,bch' HB0.out HB.out⟩
      · have hpl:=fun W (h:EfsAt W v L) => r28_place x.ef L v W h (by have:=hok.few;omega)
        have hme:=fun W (h:IntsAt W (.slice p x.cs.length c) x.cs) => r28_member x.cs p c ch W h (by have:=hx.ch.few;omega)
        have hal:=((Below.refl w.heap.size w).alloc (Nat.le_refl _) (.cells #[.int .i64 (x.ef),.slice p x.cs.length c,.int .i64 (x.ce),.int .i64 (x.cr),.int .i64 (x.cd),.int .i64 (x.cl)] 68)).alloc (by simp) (.cells #[.int .i64 ch,.int .i64 a] 45)
        have HE:=Lib.hid (EfsAt.kept hl hal);have HI:=Lib.hid (IntsAt.below hi hal);have HB0:=Lib.hid hal;clear hal
        have HX1:=Lib.hid ((Blk.new w 68 #[.int .i64 (x.ef),.slice p x.cs.length c,.int .i64 (x.ce),.int .i64 (x.cr),.int .i64 (x.cd),.int .i64 (x.cl)]).alloc (.cells #[.int .i64 ch,.int .i64 a] 45))
        have hA:=Blk.new (w.alloc (.cells #[.int .i64 (x.ef),.slice p x.cs.length c,.int .i64 (x.ce),.int .i64 (x.cr),.int .i64 (x.cd),.int .i64 (x.cl)] 68)) 45 #[.int .i64 ch,.int .i64 a]
        rw [World.size_alloc] at hA
        have HP1:=Lib.hid hA;clear hA
        rw [place_at hq] at hpl
        have HZ:Hid (toldQ L x t ch a = 0):=Lib.hid (toldQ_other hq ha)
        rw [hm] at hme
        have hkl:=(hq.yes rfl).1
        obtain ⟨M,pm,cm,rfl,hM,hMR,hMW⟩:=hl
        have hkm:k < M.length:=by rw [← hM,List.length_map] at hkl;exact hkl
        obtain ⟨y,hy⟩:∃ y,y = M[k]'hkm:=⟨_,rfl⟩
        have hyl:L[k]'hkl = y.1:=by subst hM;rw [List.getElem_map,hy]
        obtain ⟨bb,oo,rfl,hbb,hCC⟩:=hMR (fun e => by subst e;exact absurd hkm (Nat.not_lt_zero _))
        have hcell:=hCC k hkm
        rw [← hy] at hcell
        have HBb:Hid (bb < w.heap.size):=Lib.hid hbb
        have HY0:=Lib.hid (hcell 0 _ rfl);have HY1:=Lib.hid (hcell 1 _ rfl);have HY2:=Lib.hid (hcell 2 _ rfl);have HY3:=Lib.hid (hcell 3 _ rfl);have HY4:=Lib.hid (hcell 4 _ rfl);have HY5:=Lib.hid (hcell 5 _ rfl)
        have hki:(k:Int) < (M.length:Int):=by omega
        have hk0:(0:Int) ≤ (k:Int):=by omega
        have hkn:¬ (k:Int) < 0:=by omega
        have hlo:k * 6 < 9223372036854775807:=by have:=hok.few;omega
        rw [hyl] at ha
        have hne:((y.1.at_:Int) != a) = true:=by rw [bne_iff_ne];exact ha
        have hm0:¬ (m:Int) < 0:=by omega
        clear hi hok hx hz hq hm ha hM hMR hMW hCC hcell hy hyl hbb hkl
        have HPL:=Lib.hid hpl;clear hpl
        have HME:=Lib.hid hme;clear hme
        go_enter Tryz.func51,Tryz.ntmps51
        go_upto_region 1 with fail
        obtain ⟨W2,hW2⟩:∃ X,X = (w.alloc (.cells #[.int .i64 (x.ef),.slice p x.cs.length c,.int .i64 (x.ce),.int .i64 (x.cr),.int .i64 (x.cd),.int .i64 (x.cl)] 68)).alloc (.cells #[.int .i64 ch,.int .i64 a] 45):=⟨_,rfl⟩
        rw [← hW2] at HE HI HB0 HX1 HP1 ⊢
        clear hW2
        have HB:=Lib.hid (Below.refl W2.heap.size W2)
        have r0f:=fun p:BelowOf _ => (HX1.out.keep (bch' HB.out p.h)).c6.1
        have r1f:=fun p:BelowOf _ => (HX1.out.keep (bch' HB.out p.h)).c6.2.1
        have q0f:=fun p:BelowOf _ => (HP1.out.keep (bch' HB.out p.h)).c2.1
        refine wp_region_WQ (by kernel_rfl) (by kernel_rfl) ?_
        repeat (refine WQ.step (fun K hK => ?_);go_simp;first | (refine hK.out _ ?_;clear hK K) | (apply Exists.intro;refine ⟨fun _ => ?_,hK.out _ ?_⟩;(first | rfl | (go_at_call 94;exact calls_below_of _ (HPL.out _ (EfsAt.kept HE.out (bch' HB.out (BelowOf.h _))))) | (go_at_call 95;exact calls_below_same _ (HME.out _ (IntsAt.below HI.out (bch' HB.out (BelowOf.h _))))));clear hK K))
        refine WQ.nil ?_
        intro _ hw'
        obtain ⟨⟨wq,hbq⟩,hw2⟩:=hw'
        subst hw2
        replace HB:=Lib.hid (bch' HB.out hbq)
        clear r0f r1f q0f
        go_upto_region 2 with fail
        have y1f:=fun p:BelowOf _ => ((bch' (bch' HB0.out HB.out) p.h).cell (p:=⟨bb,oo + k * 6 + 1,none⟩) HBb.out).trans HY1.out
        have zz:=fun p:BelowOf _ => Nat.lt_of_lt_of_le HBb.out (bch' (bch' HB0.out HB.out) p.h).size
        have q1f:=fun p:BelowOf _ => (HP1.out.keep (bch' HB.out p.h)).c2.2.1
        refine wp_region_WQ (by kernel_rfl) (by kernel_rfl) ?_
        repeat (refine WQ.step (fun K hK => ?_);go_simp;first | (refine hK.out _ ?_;clear hK K) | (apply Exists.intro;refine ⟨fun _ => ?_,hK.out _ ?_⟩;(first | rfl);clear hK K))
        refine WQ.nil ?_
        intro _ hw'
        obtain ⟨⟨wr,hbr⟩,hw2⟩:=hw'
        subst hw2
        replace HB:=Lib.hid (bch' HB.out hbr)
        clear y1f zz q1f
        go_wp2_with fail
        go_ret
        exact ⟨by rw [HZ.out,showR_zero];rfl,bch' HB0.out HB.out⟩
theorem r28_total (L : List Efx) (R : List Rnx) (v u : Value) (t ch a : Int) (w : World) (hl : EfsAt w v L) (hu : RunsAt w u R) (hoL : OrdOk efE (·.nu) L) (hoR : OrdOk rnE (·.ef) R) (hz : ∀ x ∈ R, moE x.ce x.cr x.cd x.cl t = 0) :
    Calls Tryz.prog 53 #[v,u,.int .i64 t,.agg #[.int .i64 ch,.int .i64 a]] w fun e w' => e = .returned (.string ⟨(showR (sumQ L R t ch a)).toArray⟩) ∧ Below w.heap.size w w':=by
  have hal:=(Below.refl w.heap.size w).alloc (Nat.le_refl _) (.cells #[.int .i64 ch,.int .i64 a] 45)
  have HE:=Lib.hid (EfsAt.kept hl hal);have HB0:=Lib.hid hal
  have HP1:=Lib.hid (Blk.new w 45 #[.int .i64 ch,.int .i64 a])
  clear hal hl
  have HOL:=Lib.hid hoL;have HOK:=Lib.hid hoR;have HZ:=Lib.hid hz
  have HF:Hid (∀ k,k ≤ R.length → Fits 9000 (sumQ L (R.take k) t ch a)):=Lib.hid fun k hk => (sumQ_fits1 hoL hoR hk (fun j hj _ => hz _ (List.getElem_mem hj))).mono (by omega)
  have HFEW:Hid (R.length ≤ 16):=Lib.hid hoR.few
  obtain ⟨M,pm,cm,rfl,hM,hMR,hMC⟩:=hu
  have HL:Hid (M.length = R.length):=Lib.hid (by rw [← hM,List.length_map])
  have HM1:=Lib.hid hM;have HR1:=Lib.hid hMR;have HH1:=Lib.hid hMC
  clear hoL hoR hz hM hMR hMC
  go_enter Tryz.func53,Tryz.ntmps53
  go_upto_region 1 with fail
  obtain ⟨W2,hW2⟩:∃ X,X = w.alloc (.cells #[.int .i64 ch,.int .i64 a] 45):=⟨_,rfl⟩
  rw [← hW2] at HE HB0 HP1 ⊢
  clear hW2
  have HB:=Lib.hid (Below.refl W2.heap.size W2)
  go_wp2_with fail
  go_loopw [9,10] (fun s9 s10 wr => ∃ k:Nat,s9 = .string ⟨(showR (sumQ L (R.take k) t ch a)).toArray⟩ ∧ s10 = .int .i64 (k:Int) ∧ k ≤ R.length ∧ Hid (Below W2.heap.size W2 wr)) (fun _ s10 _ => R.length - (intOf s10).toNat)
  case atStart => exact ⟨0,by rw [List.take_zero,sumQ_nil,showR_zero],rfl,by omega,HB⟩
  case round =>
    clear HB
    obtain ⟨k,rfl,rfl,hk9,HB⟩:=hrel
    by_cases hlt0:k < R.length
    · have hlm:k < M.length:=by have:=HL.out;omega
      have hlt:(k:Int) < (M.length:Int):=by omega
      have hk0:(0:Int) ≤ (k:Int):=by omega
      have hun:IntKind.i64.wrap ((k:Int) + 1) = (k:Int) + 1:=IntWalk.i64_in _ (by have:=HFEW.out;omega)
      obtain ⟨bb,oo,rfl,hbb,hCC⟩:=HR1.out (fun e => by subst e;simp at hlm)
      obtain ⟨⟨x,q1,q2,q3⟩,hq⟩:∃ y,y = M[k]'hlm:=⟨_,rfl⟩
      have hcell:=hCC k hlm
      rw [← hq] at hcell
      have hxi:=(HH1.out _ (List.getElem_mem hlm)).1
      rw [← hq] at hxi
      dsimp only at hxi
      have hq2:=hxi.len
      subst hq2
      have hxr:R[k]'hlt0 = x:=(fst_at HM1.out hlm hlt0).trans (by rw [← hq])
      have hxo:=rnOk (HOK.out.ok k hlt0)
      have hxz:=HZ.out _ (List.getElem_mem hlt0)
      rw [hxr] at hxo hxz
      have hto:=fun W (h:EfsAt W v L) (h2:IntsAt W (.slice q1 x.cs.length q3) x.cs) => r28_told L v x q1 q3 t ch a W h h2 HOL.out hxo hxz
      have hplu:=fun W => r2_plus (sumQ L (R.take k) t ch a) (toldQ L x t ch a) W (HF.out k hk9) ((toldQ_fits HOL.out hxo hxz).mono (by omega))
      have HS:Hid (sumQ L (R.take (k + 1)) t ch a = sumQ L (R.take k) t ch a + toldQ L x t ch a):=Lib.hid (by rw [sumQ_take hlt0,hxr])
      have HI:=Lib.hid hxi;have HBb:=Lib.hid hbb
      have HY0:=Lib.hid (hcell 0 _ rfl);have HY1:=Lib.hid (hcell 1 _ rfl);have HY2:=Lib.hid (hcell 2 _ rfl);have HY3:=Lib.hid (hcell 3 _ rfl);have HY4:=Lib.hid (hcell 4 _ rfl);have HY5:=Lib.hid (hcell 5 _ rfl)
      clear hcell hCC hq hxi hxr hxo hxz hbb
      have HTO:=Lib.hid hto;clear hto
      have HPLU:=Lib.hid hplu;clear hplu
      go_upto_region 5 with fail
      have y0f:=fun p:BelowOf _ => ((bch' (bch' HB0.out HB.out) p.h).cell (p:=⟨bb,oo + k * 6,none⟩) HBb.out).trans HY0.out
      have y1f:=fun p:BelowOf _ => ((bch' (bch' HB0.out HB.out) p.h).cell (p:=⟨bb,oo + k * 6 + 1,none⟩) HBb.out).trans HY1.out
      have y2f:=fun p:BelowOf _ => ((bch' (bch' HB0.out HB.out) p.h).cell (p:=⟨bb,oo + k * 6 + 2,none⟩) HBb.out).trans HY2.out
      have y3f:=fun p:BelowOf _ => ((bch' (bch' HB0.out HB.out) p.h).cell (p:=⟨bb,oo + k * 6 + 3,none⟩) HBb.out).trans HY3.out
      have y4f:=fun p:BelowOf _ => ((bch' (bch' HB0.out HB.out) p.h).cell (p:=⟨bb,oo + k * 6 + 4,none⟩) HBb.out).trans HY4.out
      have y5f:=fun p:BelowOf _ => ((bch' (bch' HB0.out HB.out) p.h).cell (p:=⟨bb,oo + k * 6 + 5,none⟩) HBb.out).trans HY5.out
      have zz:=fun p:BelowOf _ => Nat.lt_of_lt_of_le HBb.out (bch' (bch' HB0.out HB.out) p.h).size
      have q0f:=fun p:BelowOf _ => (HP1.out.keep (bch' HB.out p.h)).c2.1
      have q1f:=fun p:BelowOf _ => (HP1.out.keep (bch' HB.out p.h)).c2.2.1
      refine wp_region_WQ (by kernel_rfl) (by kernel_rfl) ?_
      repeat (refine WQ.step (fun K hK => ?_);go_simp;first | (refine hK.out _ ?_;clear hK K) | (apply Exists.intro;refine ⟨fun _ => ?_,hK.out _ ?_⟩;(first | rfl | (go_at_call 51;exact calls_below_of _ (HTO.out _ (EfsAt.kept HE.out (bch' HB.out (BelowOf.h _))) (IntsAt.below HI.out (bch' HB0.out (bch' HB.out (BelowOf.h _)))))) | (go_at_call 26;exact calls_below_of _ (HPLU.out _)));clear hK K))
      refine WQ.nil ?_
      intro _ hw'
      obtain ⟨⟨wq,hbq⟩,hw2⟩:=hw'
      subst hw2
      replace HB:=Lib.hid (bch' HB.out hbq)
      clear y0f y1f y2f y3f y4f y5f zz q0f q1f
      go_wp2_with fail
      go_roundw
      case rel => exact ⟨k + 1,by rw [HS.out],by first | rfl | simp,by omega,HB⟩
      case measure => first | (simp [intOf];done) | (simp [intOf];omega)
    · have hlm:¬ (k:Int) < (M.length:Int):=by have:=HL.out;omega
      obtain rfl:k = R.length:=by omega
      have HTA:Hid (R.take R.length = R):=Lib.hid List.take_length
      rw [HTA.out]
      go_wp2_with fail
      go_ret
      exact ⟨rfl,bch' HB0.out HB.out⟩
end Go.Proofs.YtbeojahilbglcaaGreatDoor
set_option maxRecDepth 100000
set_option maxHeartbeats 4000000
namespace Lum
open Go Go.RowKit Go.Shelf
open Go.Lib (decDigits itoa)
theorem atF_first {t:Int} {R:List Rnx} {k:Nat} (hk:k < R.length) (h:∀ j (hj:j < R.length),j < k → moE (R[j]'hj).ce (R[j]'hj).cr (R[j]'hj).cd (R[j]'hj).cl t = 0) (e:¬ moE (R[k]'hk).ce (R[k]'hk).cr (R[k]'hk).cd (R[k]'hk).cl t = 0):atF t R = moE (R[k]'hk).ce (R[k]'hk).cr (R[k]'hk).cd (R[k]'hk).cl t:=by
  rw [← atF_drop_err hk e]
  have:∀ m,m ≤ k → atF t R = atF t (R.drop m):=by
    intro m
    induction m with
    | zero => intro _;rfl
    | succ m ih => intro hm;rw [ih (by omega),atF_drop_ok (by omega) (h m (by omega) (by omega))]
  exact this k (Nat.le_refl _)
end Lum
namespace Go.Proofs.YtbeojahilbglcaaGreatDoor
open Go.RowKit Go.Shelf Lum
open Go.Lib (decDigits itoa)
attribute [local go_sem] bs_get bs_extract_end bs_extract_from bs_extract bs_append
theorem r28_of (L : List Efx) (R : List Rnx) (v u : Value) (n t ch a : Int) (w : World) (hl : EfsAt w v L) (hu : RunsAt w u R) :
    Calls Tryz.prog 18 #[v,u,.int .i64 n,.int .i64 t,.agg #[.int .i64 ch,.int .i64 a]] w fun e w' => e = .returned (.tuple #[.string ⟨((ofE L R n t ch a).1).toArray⟩,.int .i64 ((ofE L R n t ch a).2)]) ∧ Below w.heap.size w w':=by
  by_cases hp0:pbE L R ch a = 0
  · obtain ⟨hz1,hz2,-⟩:=pbE_zero hp0
    have hoL:=ordOk (show ordE efE (·.nu) L = 0 from hz1)
    have hoR:=ordOk (show ordE rnE (·.ef) R = 0 from hz2)
    clear hz1 hz2
    obtain ⟨k,hit,hq⟩:=belongs_key hoR n
    cases hit with
    | false =>
      have hal:=(Below.refl w.heap.size w).alloc (Nat.le_refl _) (.cells #[.int .i64 ch,.int .i64 a] 45)
      have HE:=Lib.hid (EfsAt.kept hl hal);have HN:=Lib.hid (RunsAt.kept hu hal);have HB0:=Lib.hid hal
      have HP1:=Lib.hid (Blk.new w 45 #[.int .i64 ch,.int .i64 a])
      have hbo:=fun W (h1:EfsAt W v L) (h2:RunsAt W u R) => r28_both L R v u ch a W h1 h2
      rw [hp0] at hbo
      have hrn:=fun W (h:RunsAt W u R) => r28_running n R u W h (by have:=hoR.few;omega)
      rw [run_no hq.miss] at hrn
      rw [ofE_no hp0 (find_miss hq.miss)]
      clear hal hl hu hq hoL hoR hp0
      have HBO:=Lib.hid hbo;clear hbo
      have HRN:=Lib.hid hrn;clear hrn
      go_enter Tryz.func18,Tryz.ntmps18
      go_upto_region 1 with fail
      obtain ⟨W2,hW2⟩:∃ X,X = w.alloc (.cells #[.int .i64 ch,.int .i64 a] 45):=⟨_,rfl⟩
      rw [← hW2] at HE HN HB0 HP1 ⊢
      clear hW2
      have HB:=Lib.hid (Below.refl W2.heap.size W2)
      have HP:=Lib.hid HP1.out;have HE1:=Lib.hid HE.out;have HN1:=Lib.hid HN.out
      obtain ⟨q0,q1,qf0,qf1⟩:=HP.out.c2
      go_wp2_with (first | (with_reducible refine ((HBO.out _ HE.out HN.out).mono ?_);rintro e w' ⟨rfl,hb⟩;replace HP:=Lib.hid (HP.out.keep hb);clear q0 q1 qf0 qf1;replace HE:=Lib.hid (EfsAt.kept HE.out hb);replace HN:=Lib.hid (RunsAt.kept HN.out hb);replace HB:=Lib.hid (bch' HB.out hb);clear hb;obtain ⟨q0,q1,qf0,qf1⟩:=HP.out.c2) | (with_reducible refine ((HRN.out _ HN.out).mono ?_);rintro e w' ⟨rfl,hb⟩;replace HP:=Lib.hid (HP.out.keep hb);clear q0 q1 qf0 qf1;replace HE:=Lib.hid (EfsAt.kept HE.out hb);replace HN:=Lib.hid (RunsAt.kept HN.out hb);replace HB:=Lib.hid (bch' HB.out hb);clear hb;obtain ⟨q0,q1,qf0,qf1⟩:=HP.out.c2))
      go_ret2
      exact ⟨rfl,bch' HB0.out HB.out⟩
    | true =>
      by_cases hz:moE (R[k]'(hq.yes rfl).1).ce (R[k]'(hq.yes rfl).1).cr (R[k]'(hq.yes rfl).1).cd (R[k]'(hq.yes rfl).1).cl t = 0
      · have hal:=(Below.refl w.heap.size w).alloc (Nat.le_refl _) (.cells #[.int .i64 ch,.int .i64 a] 45)
        have HE:=Lib.hid (EfsAt.kept hl hal);have HN:=Lib.hid (RunsAt.kept hu hal);have HB0:=Lib.hid hal
        have HP1:=Lib.hid (Blk.new w 45 #[.int .i64 ch,.int .i64 a])
        have hbo:=fun W (h1:EfsAt W v L) (h2:RunsAt W u R) => r28_both L R v u ch a W h1 h2
        rw [hp0] at hbo
        have hrn:=fun W (h:RunsAt W u R) => r28_running n R u W h (by have:=hoR.few;omega)
        have hkl:=(hq.yes rfl).1
        rw [hq.ix] at hrn
        rw [ofE_at hp0 hq.find]
        have hxo:=rnOk (hoR.ok k hkl)
        obtain ⟨M,pm,cm,rfl,hM,hMR,hMC⟩:=hu
        have hlm:k < M.length:=by rw [← hM,List.length_map] at hkl;exact hkl
        obtain ⟨bb,oo,rfl,hbb,hCC⟩:=hMR (fun e => by subst e;exact absurd hlm (Nat.not_lt_zero _))
        obtain ⟨⟨x,q1,q2,q3⟩,hy⟩:∃ y,y = M[k]'hlm:=⟨_,rfl⟩
        have hcell:=hCC k hlm
        rw [← hy] at hcell
        have hxi:=(hMC _ (List.getElem_mem hlm)).1
        rw [← hy] at hxi
        dsimp only at hxi
        have hq2:=hxi.len
        subst hq2
        have hxr:R[k]'hkl = x:=(fst_at hM hlm hkl).trans (by rw [← hy])
        have HI:=Lib.hid hxi;have HBb:Hid (bb < w.heap.size):=Lib.hid hbb
        have HY0:=Lib.hid (hcell 0 _ rfl);have HY1:=Lib.hid (hcell 1 _ rfl);have HY2:=Lib.hid (hcell 2 _ rfl);have HY3:=Lib.hid (hcell 3 _ rfl);have HY4:=Lib.hid (hcell 4 _ rfl);have HY5:=Lib.hid (hcell 5 _ rfl)
        have hlt:(k:Int) < (M.length:Int):=by omega
        have hk0:(0:Int) ≤ (k:Int):=by omega
        have hkn:¬ (k:Int) < 0:=by omega
        have hlo:k * 6 < 9223372036854775807:=by have:=hoR.few;omega
        rw [hxr] at hz hxo ⊢
        have hat:=fun W => r23_at x.ce x.cr x.cd x.cl t W
        rw [tolT_ok hz]
        rw [hz] at hat
        rw [if_pos rfl] at hat
        generalize shZ x.ce x.cr x.cd x.cl t = sh at hat
        have hto:=fun W (h:EfsAt W v L) (h2:IntsAt W (.slice q1 x.cs.length q3) x.cs) => r28_told L v x q1 q3 t ch a W h h2 hoL hxo hz
        clear hal hl hxi hcell hbb hCC hMR hMC hM hy hxr hq hoL hoR hp0 hz hxo hkl
        have HBO:=Lib.hid hbo;clear hbo
        have HRN:=Lib.hid hrn;clear hrn
        have HAT:=Lib.hid hat;clear hat
        have HTO:=Lib.hid hto;clear hto
        go_enter Tryz.func18,Tryz.ntmps18
        go_upto_region 1 with fail
        obtain ⟨W2,hW2⟩:∃ X,X = w.alloc (.cells #[.int .i64 ch,.int .i64 a] 45):=⟨_,rfl⟩
        rw [← hW2] at HE HN HB0 HP1 ⊢
        clear hW2
        have HB:=Lib.hid (Below.refl W2.heap.size W2)
        have HP:=Lib.hid HP1.out;have HE1:=Lib.hid HE.out;have HN1:=Lib.hid HN.out
        obtain ⟨q0,q1,qf0,qf1⟩:=HP.out.c2
        go_upto_region 7 with (first | (with_reducible refine ((HBO.out _ HE.out HN.out).mono ?_);rintro e w' ⟨rfl,hb⟩;replace HP:=Lib.hid (HP.out.keep hb);clear q0 q1 qf0 qf1;replace HE:=Lib.hid (EfsAt.kept HE.out hb);replace HN:=Lib.hid (RunsAt.kept HN.out hb);replace HB:=Lib.hid (bch' HB.out hb);clear hb;obtain ⟨q0,q1,qf0,qf1⟩:=HP.out.c2) | (with_reducible refine ((HRN.out _ HN.out).mono ?_);rintro e w' ⟨rfl,hb⟩;replace HP:=Lib.hid (HP.out.keep hb);clear q0 q1 qf0 qf1;replace HE:=Lib.hid (EfsAt.kept HE.out hb);replace HN:=Lib.hid (RunsAt.kept HN.out hb);replace HB:=Lib.hid (bch' HB.out hb);clear hb;obtain ⟨q0,q1,qf0,qf1⟩:=HP.out.c2))
        have y2:w'.cell? ⟨bb,oo + k * 6 + 2,none⟩ = some (.int .i64 (x.ce)):=((bch' HB0.out HB.out).cell (p:=⟨bb,oo + k * 6 + 2,none⟩) HBb.out).trans HY2.out
        have y3:w'.cell? ⟨bb,oo + k * 6 + 3,none⟩ = some (.int .i64 (x.cr)):=((bch' HB0.out HB.out).cell (p:=⟨bb,oo + k * 6 + 3,none⟩) HBb.out).trans HY3.out
        have y4:w'.cell? ⟨bb,oo + k * 6 + 4,none⟩ = some (.int .i64 (x.cd)):=((bch' HB0.out HB.out).cell (p:=⟨bb,oo + k * 6 + 4,none⟩) HBb.out).trans HY4.out
        have y5:w'.cell? ⟨bb,oo + k * 6 + 5,none⟩ = some (.int .i64 (x.cl)):=((bch' HB0.out HB.out).cell (p:=⟨bb,oo + k * 6 + 5,none⟩) HBb.out).trans HY5.out
        have hbr:bb < w'.heap.size:=Nat.lt_of_lt_of_le HBb.out (bch' HB0.out HB.out).size
        clear q0 q1 qf0 qf1
        clear HP HN HE
        go_upto_region 10 with (first | (with_reducible refine ((HAT.out _).mono ?_);rintro e w' ⟨rfl,hb⟩;replace HB:=Lib.hid (bch' HB.out hb);clear hb))
        have y0f:=fun p:BelowOf _ => ((bch' (bch' HB0.out HB.out) p.h).cell (p:=⟨bb,oo + k * 6,none⟩) HBb.out).trans HY0.out
        have y1f:=fun p:BelowOf _ => ((bch' (bch' HB0.out HB.out) p.h).cell (p:=⟨bb,oo + k * 6 + 1,none⟩) HBb.out).trans HY1.out
        have y2f:=fun p:BelowOf _ => ((bch' (bch' HB0.out HB.out) p.h).cell (p:=⟨bb,oo + k * 6 + 2,none⟩) HBb.out).trans HY2.out
        have y3f:=fun p:BelowOf _ => ((bch' (bch' HB0.out HB.out) p.h).cell (p:=⟨bb,oo + k * 6 + 3,none⟩) HBb.out).trans HY3.out
        have y4f:=fun p:BelowOf _ => ((bch' (bch' HB0.out HB.out) p.h).cell (p:=⟨bb,oo + k * 6 + 4,none⟩) HBb.out).trans HY4.out
        have y5f:=fun p:BelowOf _ => ((bch' (bch' HB0.out HB.out) p.h).cell (p:=⟨bb,oo + k * 6 + 5,none⟩) HBb.out).trans HY5.out
        have zz:=fun p:BelowOf _ => Nat.lt_of_lt_of_le HBb.out (bch' (bch' HB0.out HB.out) p.h).size
        have q0f:=fun p:BelowOf _ => (HP1.out.keep (bch' HB.out p.h)).c2.1
        have q1f:=fun p:BelowOf _ => (HP1.out.keep (bch' HB.out p.h)).c2.2.1
        refine wp_region_WQ (by kernel_rfl) (by kernel_rfl) ?_
        repeat (refine WQ.step (fun K hK => ?_);go_simp;first | (refine hK.out _ ?_;clear hK K) | (apply Exists.intro;refine ⟨fun _ => ?_,hK.out _ ?_⟩;(first | rfl | (go_at_call 51;exact calls_below_of _ (HTO.out _ (EfsAt.kept HE1.out (bch' HB.out (BelowOf.h _))) (IntsAt.below HI.out (bch' HB0.out (bch' HB.out (BelowOf.h _)))))));clear hK K))
        refine WQ.nil ?_
        intro _ hw'
        obtain ⟨⟨ws,hbs⟩,hw2⟩:=hw'
        subst hw2
        replace HB:=Lib.hid (bch' HB.out hbs)
        clear y0f y1f y2f y3f y4f y5f zz q0f q1f
        go_wp2_with fail
        go_ret2
        exact ⟨rfl,bch' HB0.out HB.out⟩
      · have hal:=(Below.refl w.heap.size w).alloc (Nat.le_refl _) (.cells #[.int .i64 ch,.int .i64 a] 45)
        have HE:=Lib.hid (EfsAt.kept hl hal);have HN:=Lib.hid (RunsAt.kept hu hal);have HB0:=Lib.hid hal
        have HP1:=Lib.hid (Blk.new w 45 #[.int .i64 ch,.int .i64 a])
        have hbo:=fun W (h1:EfsAt W v L) (h2:RunsAt W u R) => r28_both L R v u ch a W h1 h2
        rw [hp0] at hbo
        have hrn:=fun W (h:RunsAt W u R) => r28_running n R u W h (by have:=hoR.few;omega)
        have hkl:=(hq.yes rfl).1
        rw [hq.ix] at hrn
        rw [ofE_at hp0 hq.find]
        have hxo:=rnOk (hoR.ok k hkl)
        obtain ⟨M,pm,cm,rfl,hM,hMR,hMC⟩:=hu
        have hlm:k < M.length:=by rw [← hM,List.length_map] at hkl;exact hkl
        obtain ⟨bb,oo,rfl,hbb,hCC⟩:=hMR (fun e => by subst e;exact absurd hlm (Nat.not_lt_zero _))
        obtain ⟨⟨x,q1,q2,q3⟩,hy⟩:∃ y,y = M[k]'hlm:=⟨_,rfl⟩
        have hcell:=hCC k hlm
        rw [← hy] at hcell
        have hxi:=(hMC _ (List.getElem_mem hlm)).1
        rw [← hy] at hxi
        dsimp only at hxi
        have hq2:=hxi.len
        subst hq2
        have hxr:R[k]'hkl = x:=(fst_at hM hlm hkl).trans (by rw [← hy])
        have HI:=Lib.hid hxi;have HBb:Hid (bb < w.heap.size):=Lib.hid hbb
        have HY0:=Lib.hid (hcell 0 _ rfl);have HY1:=Lib.hid (hcell 1 _ rfl);have HY2:=Lib.hid (hcell 2 _ rfl);have HY3:=Lib.hid (hcell 3 _ rfl);have HY4:=Lib.hid (hcell 4 _ rfl);have HY5:=Lib.hid (hcell 5 _ rfl)
        have hlt:(k:Int) < (M.length:Int):=by omega
        have hk0:(0:Int) ≤ (k:Int):=by omega
        have hkn:¬ (k:Int) < 0:=by omega
        have hlo:k * 6 < 9223372036854775807:=by have:=hoR.few;omega
        rw [hxr] at hz hxo ⊢
        have hat:=fun W => r23_at x.ce x.cr x.cd x.cl t W
        rw [tolT_bad hz]
        rw [if_neg hz] at hat
        have hne:((moE x.ce x.cr x.cd x.cl t:Int) != 0) = true:=by simpa using hz
        generalize moE x.ce x.cr x.cd x.cl t = mo at *
        clear hal hl hxi hcell hbb hCC hMR hMC hM hy hxr hq hoL hoR hp0 hz hxo hkl
        have HBO:=Lib.hid hbo;clear hbo
        have HRN:=Lib.hid hrn;clear hrn
        have HAT:=Lib.hid hat;clear hat
        go_enter Tryz.func18,Tryz.ntmps18
        go_upto_region 1 with fail
        obtain ⟨W2,hW2⟩:∃ X,X = w.alloc (.cells #[.int .i64 ch,.int .i64 a] 45):=⟨_,rfl⟩
        rw [← hW2] at HE HN HB0 HP1 ⊢
        clear hW2
        have HB:=Lib.hid (Below.refl W2.heap.size W2)
        have HP:=Lib.hid HP1.out;have HE1:=Lib.hid HE.out;have HN1:=Lib.hid HN.out
        obtain ⟨q0,q1,qf0,qf1⟩:=HP.out.c2
        go_upto_region 7 with (first | (with_reducible refine ((HBO.out _ HE.out HN.out).mono ?_);rintro e w' ⟨rfl,hb⟩;replace HP:=Lib.hid (HP.out.keep hb);clear q0 q1 qf0 qf1;replace HE:=Lib.hid (EfsAt.kept HE.out hb);replace HN:=Lib.hid (RunsAt.kept HN.out hb);replace HB:=Lib.hid (bch' HB.out hb);clear hb;obtain ⟨q0,q1,qf0,qf1⟩:=HP.out.c2) | (with_reducible refine ((HRN.out _ HN.out).mono ?_);rintro e w' ⟨rfl,hb⟩;replace HP:=Lib.hid (HP.out.keep hb);clear q0 q1 qf0 qf1;replace HE:=Lib.hid (EfsAt.kept HE.out hb);replace HN:=Lib.hid (RunsAt.kept HN.out hb);replace HB:=Lib.hid (bch' HB.out hb);clear hb;obtain ⟨q0,q1,qf0,qf1⟩:=HP.out.c2))
        have y2:w'.cell? ⟨bb,oo + k * 6 + 2,none⟩ = some (.int .i64 (x.ce)):=((bch' HB0.out HB.out).cell (p:=⟨bb,oo + k * 6 + 2,none⟩) HBb.out).trans HY2.out
        have y3:w'.cell? ⟨bb,oo + k * 6 + 3,none⟩ = some (.int .i64 (x.cr)):=((bch' HB0.out HB.out).cell (p:=⟨bb,oo + k * 6 + 3,none⟩) HBb.out).trans HY3.out
        have y4:w'.cell? ⟨bb,oo + k * 6 + 4,none⟩ = some (.int .i64 (x.cd)):=((bch' HB0.out HB.out).cell (p:=⟨bb,oo + k * 6 + 4,none⟩) HBb.out).trans HY4.out
        have y5:w'.cell? ⟨bb,oo + k * 6 + 5,none⟩ = some (.int .i64 (x.cl)):=((bch' HB0.out HB.out).cell (p:=⟨bb,oo + k * 6 + 5,none⟩) HBb.out).trans HY5.out
        have hbr:bb < w'.heap.size:=Nat.lt_of_lt_of_le HBb.out (bch' HB0.out HB.out).size
        clear q0 q1 qf0 qf1
        clear HP HN HE
        go_wp2_with (first | (with_reducible refine ((HAT.out _).mono ?_);rintro e w' ⟨rfl,hb⟩;replace HB:=Lib.hid (bch' HB.out hb);clear hb))
        go_ret2
        exact ⟨rfl,bch' HB0.out HB.out⟩
  · have hal:=(Below.refl w.heap.size w).alloc (Nat.le_refl _) (.cells #[.int .i64 ch,.int .i64 a] 45)
    have HE:=Lib.hid (EfsAt.kept hl hal);have HN:=Lib.hid (RunsAt.kept hu hal);have HB0:=Lib.hid hal
    have HP1:=Lib.hid (Blk.new w 45 #[.int .i64 ch,.int .i64 a])
    have hbo:=fun W (h1:EfsAt W v L) (h2:RunsAt W u R) => r28_both L R v u ch a W h1 h2
    rw [ofE_pb hp0]
    have hne:((pbE L R ch a:Int) != 0) = true:=by simpa using hp0
    clear hp0 hal hl hu
    generalize pbE L R ch a = m at *
    have HBO:=Lib.hid hbo;clear hbo
    go_enter Tryz.func18,Tryz.ntmps18
    go_upto_region 1 with fail
    obtain ⟨W2,hW2⟩:∃ X,X = w.alloc (.cells #[.int .i64 ch,.int .i64 a] 45):=⟨_,rfl⟩
    rw [← hW2] at HE HN HB0 HP1 ⊢
    clear hW2
    have HB:=Lib.hid (Below.refl W2.heap.size W2)
    have HP:=Lib.hid HP1.out;have HE1:=Lib.hid HE.out;have HN1:=Lib.hid HN.out
    obtain ⟨q0,q1,qf0,qf1⟩:=HP.out.c2
    go_wp2_with (first | (with_reducible refine ((HBO.out _ HE.out HN.out).mono ?_);rintro e w' ⟨rfl,hb⟩;replace HP:=Lib.hid (HP.out.keep hb);clear q0 q1 qf0 qf1;replace HE:=Lib.hid (EfsAt.kept HE.out hb);replace HN:=Lib.hid (RunsAt.kept HN.out hb);replace HB:=Lib.hid (bch' HB.out hb);clear hb;obtain ⟨q0,q1,qf0,qf1⟩:=HP.out.c2))
    go_ret2
    exact ⟨rfl,bch' HB0.out HB.out⟩
theorem r28_sum (L : List Efx) (R : List Rnx) (v u : Value) (t ch a : Int) (w : World) (hl : EfsAt w v L) (hu : RunsAt w u R) :
    Calls Tryz.prog 20 #[v,u,.int .i64 t,.agg #[.int .i64 ch,.int .i64 a]] w fun e w' => e = .returned (.tuple #[.string ⟨((suE L R t ch a).1).toArray⟩,.int .i64 ((suE L R t ch a).2)]) ∧ Below w.heap.size w w':=by
  by_cases hp0:pbE L R ch a = 0
  · obtain ⟨hz1,hz2,-⟩:=pbE_zero hp0
    have hoL:=ordOk (show ordE efE (·.nu) L = 0 from hz1)
    have hoR:=ordOk (show ordE rnE (·.ef) R = 0 from hz2)
    clear hz1 hz2
    have hal:=(Below.refl w.heap.size w).alloc (Nat.le_refl _) (.cells #[.int .i64 ch,.int .i64 a] 45)
    have HE:=Lib.hid (EfsAt.kept hl hal);have HN:=Lib.hid (RunsAt.kept hu hal);have HB0:=Lib.hid hal
    have HP1:=Lib.hid (Blk.new w 45 #[.int .i64 ch,.int .i64 a])
    have hbo:=fun W (h1:EfsAt W v L) (h2:RunsAt W u R) => r28_both L R v u ch a W h1 h2
    rw [hp0] at hbo
    have HPZ:=Lib.hid hp0;have HOL:=Lib.hid hoL;have HOK:=Lib.hid hoR
    have HFEW:Hid (R.length ≤ 16):=Lib.hid hoR.few
    obtain ⟨M,pm,cm,rfl,hM,hMR,hMC⟩:=hu
    have HL:Hid (M.length = R.length):=Lib.hid (by rw [← hM,List.length_map])
    have HM1:=Lib.hid hM;have HR1:=Lib.hid hMR;have HH1:=Lib.hid hMC
    clear hal hl hM hMR hMC hoL hoR hp0
    have HBO:=Lib.hid hbo;clear hbo
    go_enter Tryz.func20,Tryz.ntmps20
    go_upto_region 1 with fail
    obtain ⟨W2,hW2⟩:∃ X,X = w.alloc (.cells #[.int .i64 ch,.int .i64 a] 45):=⟨_,rfl⟩
    rw [← hW2] at HE HN HB0 HP1 ⊢
    clear hW2
    have HB:=Lib.hid (Below.refl W2.heap.size W2)
    have HP:=Lib.hid HP1.out;have HE1:=Lib.hid HE.out;have HN1:=Lib.hid HN.out
    obtain ⟨q0,q1,qf0,qf1⟩:=HP.out.c2
    go_wp2_with (first | (with_reducible refine ((HBO.out _ HE.out HN.out).mono ?_);rintro e w' ⟨rfl,hb⟩;replace HP:=Lib.hid (HP.out.keep hb);clear q0 q1 qf0 qf1;replace HE:=Lib.hid (EfsAt.kept HE.out hb);replace HN:=Lib.hid (RunsAt.kept HN.out hb);replace HB:=Lib.hid (bch' HB.out hb);clear hb;obtain ⟨q0,q1,qf0,qf1⟩:=HP.out.c2))
    go_loopw [11] (fun s wr => ∃ k:Nat,s = .int .i64 (k:Int) ∧ k ≤ R.length ∧ Hid (∀ j (hj:j < R.length),j < k → moE (R[j]'hj).ce (R[j]'hj).cr (R[j]'hj).cd (R[j]'hj).cl t = 0) ∧ Hid (Below W2.heap.size W2 wr)) (fun s _ => R.length - (intOf s).toNat)
    case atStart => exact ⟨0,rfl,by omega,Lib.hid (fun j hj h => absurd h (Nat.not_lt_zero _)),HB⟩
    case round =>
      clear q0 q1 qf0 qf1
      clear HP HE HN
      obtain ⟨k,rfl,hk9,HF,HB2⟩:=hrel
      clear HB
      have HB:=HB2;clear HB2
      have HP:=Lib.hid (HP1.out.keep HB.out);have HE:=Lib.hid (EfsAt.kept HE1.out HB.out);have HN:=Lib.hid (RunsAt.kept HN1.out HB.out)
      obtain ⟨q0,q1,qf0,qf1⟩:=HP.out.c2
      by_cases hkl:k < R.length
      · have hlm:k < M.length:=by have:=HL.out;omega
        obtain ⟨bb,oo,rfl,hbb,hCC⟩:=HR1.out (fun e => by subst e;simp at hlm)
        obtain ⟨⟨x,z1,z2,z3⟩,hy⟩:∃ y,y = M[k]'hlm:=⟨_,rfl⟩
        have hcell:=hCC k hlm
        rw [← hy] at hcell
        have hxr:R[k]'hkl = x:=(fst_at HM1.out hlm hkl).trans (by rw [← hy])
        have HBb:Hid (bb < w.heap.size):=Lib.hid hbb
        have HY2:=Lib.hid (hcell 2 _ rfl);have HY3:=Lib.hid (hcell 3 _ rfl);have HY4:=Lib.hid (hcell 4 _ rfl);have HY5:=Lib.hid (hcell 5 _ rfl)
        have hlt:(k:Int) < (M.length:Int):=by omega
        have hk0:(0:Int) ≤ (k:Int):=by omega
        have hlo:k * 6 < 9223372036854775807:=by have:=HFEW.out;omega
        have hun:IntKind.i64.wrap ((k:Int) + 1) = (k:Int) + 1:=IntWalk.i64_in _ (by have:=HFEW.out;omega)
        have hat:=fun W => r23_at x.ce x.cr x.cd x.cl t W
        clear hcell hCC hy hbb
        clear q0 q1 qf0 qf1
        clear HP HE HN
        have y2:wr.cell? ⟨bb,oo + k * 6 + 2,none⟩ = some (.int .i64 (x.ce)):=((bch' HB0.out HB.out).cell (p:=⟨bb,oo + k * 6 + 2,none⟩) HBb.out).trans HY2.out
        have y3:wr.cell? ⟨bb,oo + k * 6 + 3,none⟩ = some (.int .i64 (x.cr)):=((bch' HB0.out HB.out).cell (p:=⟨bb,oo + k * 6 + 3,none⟩) HBb.out).trans HY3.out
        have y4:wr.cell? ⟨bb,oo + k * 6 + 4,none⟩ = some (.int .i64 (x.cd)):=((bch' HB0.out HB.out).cell (p:=⟨bb,oo + k * 6 + 4,none⟩) HBb.out).trans HY4.out
        have y5:wr.cell? ⟨bb,oo + k * 6 + 5,none⟩ = some (.int .i64 (x.cl)):=((bch' HB0.out HB.out).cell (p:=⟨bb,oo + k * 6 + 5,none⟩) HBb.out).trans HY5.out
        have hbr:bb < wr.heap.size:=Nat.lt_of_lt_of_le HBb.out (bch' HB0.out HB.out).size
        by_cases hz:moE x.ce x.cr x.cd x.cl t = 0
        · have HF2:Hid (∀ j (hj:j < R.length),j < k + 1 → moE (R[j]'hj).ce (R[j]'hj).cr (R[j]'hj).cd (R[j]'hj).cl t = 0):=Lib.hid (fun j hj h => by by_cases e:j = k;(subst e;rw [hxr];exact hz);exact HF.out j hj (by omega))
          rw [hz] at hat
          rw [if_pos rfl] at hat
          generalize shZ x.ce x.cr x.cd x.cl t = sh at hat
          clear hxr hz
          have HAT:=Lib.hid hat;clear hat
          go_wp2_with (first | (with_reducible refine ((HAT.out _).mono ?_);rintro e w' ⟨rfl,hb⟩;replace HB:=Lib.hid (bch' HB.out hb);clear hb))
          go_roundw
          case rel => exact ⟨k + 1,by first | rfl | simp,by omega,HF2,HB⟩
          case measure => first | (simp [intOf];done) | (simp [intOf];omega)
        · have HA:Hid (atF t R = moE x.ce x.cr x.cd x.cl t):=Lib.hid (by rw [← hxr];rw [← hxr] at hz;exact atF_first hkl HF.out hz)
          have HS:Hid (suE L R t ch a = ([],moE x.ce x.cr x.cd x.cl t)):=Lib.hid (by rw [suE_at HPZ.out (by rw [HA.out];exact hz),HA.out])
          rw [if_neg hz] at hat
          have hne:((moE x.ce x.cr x.cd x.cl t:Int) != 0) = true:=by simpa using hz
          clear hxr
          generalize moE x.ce x.cr x.cd x.cl t = mo at *
          clear hz
          have HAT:=Lib.hid hat;clear hat
          go_wp2_with (first | (with_reducible refine ((HAT.out _).mono ?_);rintro e w' ⟨rfl,hb⟩;replace HB:=Lib.hid (bch' HB.out hb);clear hb))
          go_ret2
          exact ⟨by first | (rw [HS.out];done) | (rw [HS.out];rfl),bch' HB0.out HB.out⟩
      · have hlt:¬ (k:Int) < (M.length:Int):=by have:=HL.out;omega
        have hz:∀ x ∈ R,moE x.ce x.cr x.cd x.cl t = 0:=fun x hx => by obtain ⟨j,hj,rfl⟩:=List.getElem_of_mem hx;exact HF.out j hj (by omega)
        have HS:=Lib.hid (suE_ok (t:=t) (ch:=ch) (a:=a) HPZ.out (atF_zero hz))
        have hto:=fun W (h1:EfsAt W v L) (h2:RunsAt W (.slice pm M.length cm) R) => r28_total L R v (.slice pm M.length cm) t ch a W h1 h2 HOL.out HOK.out hz
        clear hz
        have HTO:=Lib.hid hto;clear hto
        go_wp2_with (first | (with_reducible refine ((HTO.out _ HE.out HN.out).mono ?_);rintro e w' ⟨rfl,hb⟩;replace HP:=Lib.hid (HP.out.keep hb);clear q0 q1 qf0 qf1;replace HE:=Lib.hid (EfsAt.kept HE.out hb);replace HN:=Lib.hid (RunsAt.kept HN.out hb);replace HB:=Lib.hid (bch' HB.out hb);clear hb;obtain ⟨q0,q1,qf0,qf1⟩:=HP.out.c2))
        go_ret2
        exact ⟨by first | (rw [HS.out];done) | (rw [HS.out];rfl),bch' HB0.out HB.out⟩
  · have hal:=(Below.refl w.heap.size w).alloc (Nat.le_refl _) (.cells #[.int .i64 ch,.int .i64 a] 45)
    have HE:=Lib.hid (EfsAt.kept hl hal);have HN:=Lib.hid (RunsAt.kept hu hal);have HB0:=Lib.hid hal
    have HP1:=Lib.hid (Blk.new w 45 #[.int .i64 ch,.int .i64 a])
    have hbo:=fun W (h1:EfsAt W v L) (h2:RunsAt W u R) => r28_both L R v u ch a W h1 h2
    rw [suE_pb hp0]
    have hne:((pbE L R ch a:Int) != 0) = true:=by simpa using hp0
    clear hp0 hal hl hu
    generalize pbE L R ch a = m at *
    have HBO:=Lib.hid hbo;clear hbo
    go_enter Tryz.func20,Tryz.ntmps20
    go_upto_region 1 with fail
    obtain ⟨W2,hW2⟩:∃ X,X = w.alloc (.cells #[.int .i64 ch,.int .i64 a] 45):=⟨_,rfl⟩
    rw [← hW2] at HE HN HB0 HP1 ⊢
    clear hW2
    have HB:=Lib.hid (Below.refl W2.heap.size W2)
    have HP:=Lib.hid HP1.out;have HE1:=Lib.hid HE.out;have HN1:=Lib.hid HN.out
    obtain ⟨q0,q1,qf0,qf1⟩:=HP.out.c2
    go_wp2_with (first | (with_reducible refine ((HBO.out _ HE.out HN.out).mono ?_);rintro e w' ⟨rfl,hb⟩;replace HP:=Lib.hid (HP.out.keep hb);clear q0 q1 qf0 qf1;replace HE:=Lib.hid (EfsAt.kept HE.out hb);replace HN:=Lib.hid (RunsAt.kept HN.out hb);replace HB:=Lib.hid (bch' HB.out hb);clear hb;obtain ⟨q0,q1,qf0,qf1⟩:=HP.out.c2))
    go_ret2
    exact ⟨rfl,bch' HB0.out HB.out⟩
end Go.Proofs.YtbeojahilbglcaaGreatDoor
