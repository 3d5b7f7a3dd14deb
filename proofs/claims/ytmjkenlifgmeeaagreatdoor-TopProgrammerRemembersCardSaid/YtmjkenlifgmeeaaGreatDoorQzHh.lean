/-
  
-/
import Derived.Test.YtmjkenlifgmeeaaGreatDoorQzHd
import Derived.Deep.LoopGhost
import Derived.Laws.StructEq
import Derived.Test.YtmjkenlifgmeeaaGreatDoorQzHf
set_option linter.unusedVariables false
set_option linter.unusedSimpArgs false
set_option maxRecDepth 100000
set_option maxHeartbeats 4000000
namespace Go.Proofs.YtmjkenlifgmeeaaGreatDoor
open Go.RowKit Go.Shelf Lum
open Go.Lib (decDigits itoa)
attribute [local go_sem] bs_get bs_extract_end bs_extract_from bs_extract bs_append
theorem bs_hand (M : FuncId) (fv : Value) (l : List Hnd) (pp : Option Addr) (cc : Nat) (ch a : Int) (c : Nat → Int) (w : World) (hR : RowX encHd 7 w pp l) (hn0 : l.length ≤ 1000000) (hF : ∀ args w, (callFunc M args).run Tryz.prog w = .ok (.enter M args) w)
    (hcm:∀ i (hi:i < l.length),∀ W,Below w.heap.size w W → Calls Tryz.prog M #[.agg #[.int .i64 ((l[i]'hi).ch),.int .i64 ((l[i]'hi).at_),.string ⟨(l[i]'hi).fr.toArray⟩,.int .i64 ((l[i]'hi).pa),.int .i64 ((l[i]'hi).lv),.int .i64 ((l[i]'hi).st),.int .i64 ((l[i]'hi).ti)],.agg #[.int .i64 ch,.int .i64 a],fv] W fun e w' => e = .returned (.int .i64 (c i)) ∧ Below W.heap.size W w') :
    Calls Tryz.prog 66 #[.slice pp l.length cc,.agg #[.int .i64 ch,.int .i64 a],.func (.func M) #[] #[fv]] w fun e w' => ∃ i:Nat,Halved c l.length i ∧ e = .returned (.tuple #[.int .i64 (i:Int),.bool (decide (i < l.length ∧ c i = 0))]) ∧ Below w.heap.size w w':=by
  have hv2:=Lib.hid hR;clear hR
  have hcc:=Lib.hid hcm;clear hcm
  have HP:=Lib.hid (Blk.new w 34 #[.int .i64 ch,.int .i64 a])
  have HB:=Lib.hid ((Below.refl w.heap.size w).alloc (Nat.le_refl _) (.cells #[.int .i64 ch,.int .i64 a] 34))
  obtain ⟨p0,p1,pf0,pf1⟩:=HP.out.c2
  go_enter Tryz.func66,Tryz.ntmps66
  go_wp2_with fail
  go_loopg [9,10] l.length (fun kx s9 s10 wr => ∃ lo hi:Nat,s9 = .int .i64 (lo:Int) ∧ s10 = .int .i64 (hi:Int) ∧ lo ≤ hi ∧ hi ≤ l.length ∧ hi - lo ≤ kx ∧ Hid (Below w.heap.size w wr) ∧ Hid (Blk wr w.heap.size 34 #[.int .i64 ch,.int .i64 a]) ∧ Hid (0 < lo → c (lo - 1) < 0) ∧ Hid (hi < l.length → 0 ≤ c hi))
  case atStart => exact ⟨0,l.length,rfl,rfl,Nat.zero_le _,Nat.le_refl _,by omega,HB,HP,Lib.hid (fun h => absurd h (Nat.lt_irrefl 0)),Lib.hid (fun h => absurd h (Nat.lt_irrefl _))⟩
  case round =>
    clear HB HP p0 p1 pf0 pf1
    obtain ⟨lo,hi,rfl,rfl,hlh,hin,hg,HB,HP,H1,H2⟩:=hrel
    by_cases hlt:lo < hi
    · have hml:(lo + hi) / 2 < l.length:=by omega
      obtain ⟨b,o,rfl,hb,hC⟩:=hv2.out (fun h => by subst h;exact absurd hml (Nat.not_lt_zero _))
      have hcm:=hcc.out ((lo + hi) / 2) hml
      have hbr:b < wr.heap.size:=by have:=HB.out.size;omega
      have HC:=Lib.hid hC;clear hC
      have HCM:=Lib.hid hcm;clear hcm
      go_wp2_with fail
      have hmid:((lo:Int) + (hi:Int)) / 2 = (((lo + hi) / 2:Nat):Int):=by omega
      have hmi:(((lo + hi) / 2:Nat):Int) < (l.length:Int):=by omega
      rw [hmid]
      clear hmid
      have hm1:lo ≤ (lo + hi) / 2:=by omega
      have hm2:(lo + hi) / 2 < hi:=by omega
      generalize (lo + hi) / 2 = mi at *
      have hm7:mi * 7 < 9223372036854775807:=by omega
      by_cases hc:c (mi) < 0
      · have K1:Hid (0 < mi + 1 → c (mi + 1 - 1) < 0):=Lib.hid fun _ => by rw [Nat.add_sub_cancel];exact hc
        generalize hcv:c (mi) = cv at hc HCM
        clear hcv
        have f0:=fun p:BelowOf _ => (HP.out.keep p.h).c2.1
        have f1:=fun p:BelowOf _ => (HP.out.keep p.h).c2.2.1
        have zz:=fun p:BelowOf _ => Nat.lt_of_lt_of_le hbr p.h.size
        have r0:=fun p:BelowOf _ => ((bch' HB.out p.h).cell (p:=⟨b,o + mi * 7,none⟩) hb).trans (HC.out mi hml 0 _ rfl)
        have r1:=fun p:BelowOf _ => ((bch' HB.out p.h).cell (p:=⟨b,o + mi * 7 + 1,none⟩) hb).trans (HC.out mi hml 1 _ rfl)
        have r2:=fun p:BelowOf _ => ((bch' HB.out p.h).cell (p:=⟨b,o + mi * 7 + 2,none⟩) hb).trans (HC.out mi hml 2 _ rfl)
        have r3:=fun p:BelowOf _ => ((bch' HB.out p.h).cell (p:=⟨b,o + mi * 7 + 3,none⟩) hb).trans (HC.out mi hml 3 _ rfl)
        have r4:=fun p:BelowOf _ => ((bch' HB.out p.h).cell (p:=⟨b,o + mi * 7 + 4,none⟩) hb).trans (HC.out mi hml 4 _ rfl)
        have r5:=fun p:BelowOf _ => ((bch' HB.out p.h).cell (p:=⟨b,o + mi * 7 + 5,none⟩) hb).trans (HC.out mi hml 5 _ rfl)
        have r6:=fun p:BelowOf _ => ((bch' HB.out p.h).cell (p:=⟨b,o + mi * 7 + 6,none⟩) hb).trans (HC.out mi hml 6 _ rfl)
        refine wp_region_WQ (by kernel_rfl) (by kernel_rfl) ?_
        repeat (refine WQ.step (fun K hK => ?_);go_simp;first | (refine hK.out _ ?_;clear hK K) | (apply Exists.intro;refine ⟨fun _ => ?_,hK.out _ ?_⟩;(first | rfl | exact calls_below_of _ (HCM.out _ (bch' HB.out (BelowOf.h _))));clear hK K))
        refine WQ.nil ?_
        intro _ hw'
        obtain ⟨⟨wq,hbq⟩,hw2⟩:=hw'
        subst hw2
        replace HP:=Lib.hid (HP.out.keep hbq)
        replace HB:=Lib.hid (bch' HB.out hbq)
        clear f0 f1 zz r0 r1 r2 r3 r4 r5 r6
        go_wp2_with fail
        go_roundg (hi - (mi + 1))
        case measure => omega
        case rel => exact ⟨mi + 1,hi,by first | rfl | simp,rfl,by omega,by omega,Nat.le_refl _,HB,HP,K1,H2⟩
      · have K2:Hid (mi < l.length → 0 ≤ c (mi)):=Lib.hid fun _ => by omega
        generalize hcv:c (mi) = cv at hc HCM
        clear hcv
        have f0:=fun p:BelowOf _ => (HP.out.keep p.h).c2.1
        have f1:=fun p:BelowOf _ => (HP.out.keep p.h).c2.2.1
        have zz:=fun p:BelowOf _ => Nat.lt_of_lt_of_le hbr p.h.size
        have r0:=fun p:BelowOf _ => ((bch' HB.out p.h).cell (p:=⟨b,o + mi * 7,none⟩) hb).trans (HC.out mi hml 0 _ rfl)
        have r1:=fun p:BelowOf _ => ((bch' HB.out p.h).cell (p:=⟨b,o + mi * 7 + 1,none⟩) hb).trans (HC.out mi hml 1 _ rfl)
        have r2:=fun p:BelowOf _ => ((bch' HB.out p.h).cell (p:=⟨b,o + mi * 7 + 2,none⟩) hb).trans (HC.out mi hml 2 _ rfl)
        have r3:=fun p:BelowOf _ => ((bch' HB.out p.h).cell (p:=⟨b,o + mi * 7 + 3,none⟩) hb).trans (HC.out mi hml 3 _ rfl)
        have r4:=fun p:BelowOf _ => ((bch' HB.out p.h).cell (p:=⟨b,o + mi * 7 + 4,none⟩) hb).trans (HC.out mi hml 4 _ rfl)
        have r5:=fun p:BelowOf _ => ((bch' HB.out p.h).cell (p:=⟨b,o + mi * 7 + 5,none⟩) hb).trans (HC.out mi hml 5 _ rfl)
        have r6:=fun p:BelowOf _ => ((bch' HB.out p.h).cell (p:=⟨b,o + mi * 7 + 6,none⟩) hb).trans (HC.out mi hml 6 _ rfl)
        refine wp_region_WQ (by kernel_rfl) (by kernel_rfl) ?_
        repeat (refine WQ.step (fun K hK => ?_);go_simp;first | (refine hK.out _ ?_;clear hK K) | (apply Exists.intro;refine ⟨fun _ => ?_,hK.out _ ?_⟩;(first | rfl | exact calls_below_of _ (HCM.out _ (bch' HB.out (BelowOf.h _))));clear hK K))
        refine WQ.nil ?_
        intro _ hw'
        obtain ⟨⟨wq,hbq⟩,hw2⟩:=hw'
        subst hw2
        replace HP:=Lib.hid (HP.out.keep hbq)
        replace HB:=Lib.hid (bch' HB.out hbq)
        clear f0 f1 zz r0 r1 r2 r3 r4 r5 r6
        go_wp2_with fail
        go_roundg (mi - lo)
        case measure => omega
        case rel => exact ⟨lo,mi,rfl,rfl,by omega,by omega,Nat.le_refl _,HB,HP,H1,K2⟩
    · obtain rfl:hi = lo:=by omega
      have HV:Hid (Halved c l.length hi):=Lib.hid ⟨hin,H1.out,H2.out⟩
      by_cases hn:hi < l.length
      · obtain ⟨b,o,rfl,hb,hC⟩:=hv2.out (fun h => by subst h;exact absurd hn (Nat.not_lt_zero _))
        have hcm:=hcc.out hi hn
        have hbr:b < wr.heap.size:=by have:=HB.out.size;omega
        have HC:=Lib.hid hC;clear hC
        have HCM:=Lib.hid hcm;clear hcm
        have hm7:hi * 7 < 9223372036854775807:=by omega
        have hni:(hi:Int) < (l.length:Int):=by omega
        have hnd:decide (hi < l.length) = true:=decide_eq_true hn
        go_wp2_with fail
        by_cases hc:c hi = 0
        · have HR:Hid (decide (hi < l.length ∧ c hi = 0) = true):=Lib.hid (decide_eq_true ⟨hn,hc⟩)
          rw [hc] at HCM
          clear hc H1 H2
          have f0:=fun p:BelowOf _ => (HP.out.keep p.h).c2.1
          have f1:=fun p:BelowOf _ => (HP.out.keep p.h).c2.2.1
          have zz:=fun p:BelowOf _ => Nat.lt_of_lt_of_le hbr p.h.size
          have r0:=fun p:BelowOf _ => ((bch' HB.out p.h).cell (p:=⟨b,o + hi * 7,none⟩) hb).trans (HC.out hi hn 0 _ rfl)
          have r1:=fun p:BelowOf _ => ((bch' HB.out p.h).cell (p:=⟨b,o + hi * 7 + 1,none⟩) hb).trans (HC.out hi hn 1 _ rfl)
          have r2:=fun p:BelowOf _ => ((bch' HB.out p.h).cell (p:=⟨b,o + hi * 7 + 2,none⟩) hb).trans (HC.out hi hn 2 _ rfl)
          have r3:=fun p:BelowOf _ => ((bch' HB.out p.h).cell (p:=⟨b,o + hi * 7 + 3,none⟩) hb).trans (HC.out hi hn 3 _ rfl)
          have r4:=fun p:BelowOf _ => ((bch' HB.out p.h).cell (p:=⟨b,o + hi * 7 + 4,none⟩) hb).trans (HC.out hi hn 4 _ rfl)
          have r5:=fun p:BelowOf _ => ((bch' HB.out p.h).cell (p:=⟨b,o + hi * 7 + 5,none⟩) hb).trans (HC.out hi hn 5 _ rfl)
          have r6:=fun p:BelowOf _ => ((bch' HB.out p.h).cell (p:=⟨b,o + hi * 7 + 6,none⟩) hb).trans (HC.out hi hn 6 _ rfl)
          refine wp_region_WQ (by kernel_rfl) (by kernel_rfl) ?_
          repeat (refine WQ.step (fun K hK => ?_);go_simp;first | (refine hK.out _ ?_;clear hK K) | (apply Exists.intro;refine ⟨fun _ => ?_,hK.out _ ?_⟩;(first | rfl | exact calls_below_of _ (HCM.out _ (bch' HB.out (BelowOf.h _))));clear hK K))
          refine WQ.nil ?_
          intro _ hw'
          obtain ⟨⟨wq,hbq⟩,hw2⟩:=hw'
          subst hw2
          replace HP:=Lib.hid (HP.out.keep hbq)
          replace HB:=Lib.hid (bch' HB.out hbq)
          clear f0 f1 zz r0 r1 r2 r3 r4 r5 r6
          go_wp2_with fail
          go_ret2
          exact ⟨hi,HV.out,by rw [HR.out];rfl,HB.out⟩
        · have HR:Hid (decide (hi < l.length ∧ c hi = 0) = false):=Lib.hid (decide_eq_false fun h => hc h.2)
          have hcb:((c hi:Int) == 0) = false:=by simpa using hc
          clear hc H1 H2
          generalize hcv:c hi = cv at hcb HCM
          clear hcv
          have f0:=fun p:BelowOf _ => (HP.out.keep p.h).c2.1
          have f1:=fun p:BelowOf _ => (HP.out.keep p.h).c2.2.1
          have zz:=fun p:BelowOf _ => Nat.lt_of_lt_of_le hbr p.h.size
          have r0:=fun p:BelowOf _ => ((bch' HB.out p.h).cell (p:=⟨b,o + hi * 7,none⟩) hb).trans (HC.out hi hn 0 _ rfl)
          have r1:=fun p:BelowOf _ => ((bch' HB.out p.h).cell (p:=⟨b,o + hi * 7 + 1,none⟩) hb).trans (HC.out hi hn 1 _ rfl)
          have r2:=fun p:BelowOf _ => ((bch' HB.out p.h).cell (p:=⟨b,o + hi * 7 + 2,none⟩) hb).trans (HC.out hi hn 2 _ rfl)
          have r3:=fun p:BelowOf _ => ((bch' HB.out p.h).cell (p:=⟨b,o + hi * 7 + 3,none⟩) hb).trans (HC.out hi hn 3 _ rfl)
          have r4:=fun p:BelowOf _ => ((bch' HB.out p.h).cell (p:=⟨b,o + hi * 7 + 4,none⟩) hb).trans (HC.out hi hn 4 _ rfl)
          have r5:=fun p:BelowOf _ => ((bch' HB.out p.h).cell (p:=⟨b,o + hi * 7 + 5,none⟩) hb).trans (HC.out hi hn 5 _ rfl)
          have r6:=fun p:BelowOf _ => ((bch' HB.out p.h).cell (p:=⟨b,o + hi * 7 + 6,none⟩) hb).trans (HC.out hi hn 6 _ rfl)
          refine wp_region_WQ (by kernel_rfl) (by kernel_rfl) ?_
          repeat (refine WQ.step (fun K hK => ?_);go_simp;first | (refine hK.out _ ?_;clear hK K) | (apply Exists.intro;refine ⟨fun _ => ?_,hK.out _ ?_⟩;(first | rfl | exact calls_below_of _ (HCM.out _ (bch' HB.out (BelowOf.h _))));clear hK K))
          refine WQ.nil ?_
          intro _ hw'
          obtain ⟨⟨wq,hbq⟩,hw2⟩:=hw'
          subst hw2
          replace HP:=Lib.hid (HP.out.keep hbq)
          replace HB:=Lib.hid (bch' HB.out hbq)
          clear f0 f1 zz r0 r1 r2 r3 r4 r5 r6
          go_wp2_with fail
          go_ret2
          exact ⟨hi,HV.out,by rw [HR.out];rfl,HB.out⟩
      · have HR:Hid (decide (hi < l.length ∧ c hi = 0) = false):=Lib.hid (decide_eq_false fun h => hn h.1)
        have hni:¬ (hi:Int) < (l.length:Int):=by omega
        have hnd:decide (hi < l.length) = false:=decide_eq_false hn
        clear H1 H2
        go_wp2_with fail
        refine wp_region_WQ (by kernel_rfl) (by kernel_rfl) ?_
        repeat (refine WQ.step (fun K hK => ?_);go_simp;first | (refine hK.out _ ?_;clear hK K) | (apply Exists.intro;refine ⟨fun _ => ?_,hK.out _ ?_⟩;(first | rfl);clear hK K))
        refine WQ.nil ?_
        intro _ hw'
        obtain ⟨⟨wq,hbq⟩,hw2⟩:=hw'
        subst hw2
        replace HP:=Lib.hid (HP.out.keep hbq)
        replace HB:=Lib.hid (bch' HB.out hbq)
        go_wp2_with fail
        go_ret2
        exact ⟨hi,HV.out,by rw [HR.out];rfl,HB.out⟩
end Go.Proofs.YtmjkenlifgmeeaaGreatDoor
set_option maxRecDepth 100000
set_option maxHeartbeats 4000000
namespace Go.Proofs.YtmjkenlifgmeeaaGreatDoor
open Go.RowKit Go.Shelf Lum
open Go.Lib (decDigits itoa)
attribute [local go_sem] bs_get bs_extract_end bs_extract_from bs_extract bs_append
theorem cl_place (ch a : Int) (fr : Txt) (pa lv st ti d b : Int) (B : Nat) (w : World) (hB : B < w.heap.size) (hc : w.cell? ⟨B, 0, none⟩ = some (.func (.func 34) #[] #[])) :
    Calls Tryz.prog 67 #[.agg #[.int .i64 ch,.int .i64 a,.string ⟨fr.toArray⟩,.int .i64 pa,.int .i64 lv,.int .i64 st,.int .i64 ti],.agg #[.int .i64 d,.int .i64 b],.pointer (some ⟨B,0,none⟩)] w fun e w' => e = .returned (.int .i64 (cpP (ch,a) (d,b))) ∧ Below w.heap.size w w':=by
  have hB2:B < (w.alloc (.cells #[.int .i64 ch,.int .i64 a,.string ⟨fr.toArray⟩,.int .i64 pa,.int .i64 lv,.int .i64 st,.int .i64 ti] 77)).heap.size:=by rw [World.size_alloc];omega
  have hal:=((Below.refl w.heap.size w).alloc (Nat.le_refl _) (.cells #[.int .i64 ch,.int .i64 a,.string ⟨fr.toArray⟩,.int .i64 pa,.int .i64 lv,.int .i64 st,.int .i64 ti] 77)).alloc (by simp) (.cells #[.int .i64 d,.int .i64 b] 34)
  have HB:=Lib.hid hal;clear hal
  have HX:=Lib.hid ((Blk.new w 77 #[.int .i64 ch,.int .i64 a,.string ⟨fr.toArray⟩,.int .i64 pa,.int .i64 lv,.int .i64 st,.int .i64 ti]).alloc (.cells #[.int .i64 d,.int .i64 b] 34))
  have hA:=Blk.new (w.alloc (.cells #[.int .i64 ch,.int .i64 a,.string ⟨fr.toArray⟩,.int .i64 pa,.int .i64 lv,.int .i64 st,.int .i64 ti] 77)) 34 #[.int .i64 d,.int .i64 b]
  rw [World.size_alloc] at hA
  have HZ:=Lib.hid hA;clear hA hB2
  have ho:=fun W => own_pown ch a fr pa lv st ti W
  have hcp:=fun W => own_pcompare ch a d b W
  generalize cpP (ch,a) (d,b) = r at *
  have HO:=Lib.hid ho;have HCP:=Lib.hid hcp;have HBL:=Lib.hid hB;have HCC:=Lib.hid hc;clear ho hcp hB hc
  go_enter Tryz.func67,Tryz.ntmps67
  go_upto_region 1 with fail
  obtain ⟨W2,hW2⟩:∃ X,X = (w.alloc (.cells #[.int .i64 ch,.int .i64 a,.string ⟨fr.toArray⟩,.int .i64 pa,.int .i64 lv,.int .i64 st,.int .i64 ti] 77)).alloc (.cells #[.int .i64 d,.int .i64 b] 34):=⟨_,rfl⟩
  rw [← hW2] at HB HX HZ ⊢
  clear hW2
  have f0:=fun p:BelowOf _ => (HX.out.keep p.h).c7.1
  have f1:=fun p:BelowOf _ => (HX.out.keep p.h).c7.2.1
  have f2:=fun p:BelowOf _ => (HX.out.keep p.h).c7.2.2.1
  have f3:=fun p:BelowOf _ => (HX.out.keep p.h).c7.2.2.2.1
  have f4:=fun p:BelowOf _ => (HX.out.keep p.h).c7.2.2.2.2.1
  have f5:=fun p:BelowOf _ => (HX.out.keep p.h).c7.2.2.2.2.2.1
  have f6:=fun p:BelowOf _ => (HX.out.keep p.h).c7.2.2.2.2.2.2.1
  have g0:=fun p:BelowOf _ => (HZ.out.keep p.h).c2.1
  have g1:=fun p:BelowOf _ => (HZ.out.keep p.h).c2.2.1
  have m0:=fun p:BelowOf _ => ((bch' HB.out p.h).cell (p:=⟨B,0,none⟩) HBL.out).trans HCC.out
  refine wp_region_WQ (by kernel_rfl) (by kernel_rfl) ?_
  repeat (refine WQ.step (fun K hK => ?_);go_simp;first | (refine hK.out _ ?_;clear hK K) | (apply Exists.intro;refine ⟨fun _ => ?_,hK.out _ ?_⟩;(first | rfl | (go_at_call 34;exact calls_below_of _ (HO.out _)) | (go_at_call 52;exact calls_below_of _ (HCP.out _)));clear hK K))
  refine WQ.nil ?_
  intro _ hw'
  obtain ⟨⟨wq,hbq⟩,hw2⟩:=hw'
  subst hw2
  replace HB:=Lib.hid (bch' HB.out hbq)
  clear f0 f1 f2 f3 f4 f5 f6 g0 g1 m0
  go_wp2_with fail
  go_ret
  exact ⟨rfl,HB.out⟩
theorem own_pplace (l : List Hnd) (v : Value) (d b : Int) (w : World) (hv : HndsAt w v l) (hs : AscK Hnd.ky l) (hn : l.length ≤ 1000000) :
    Calls Tryz.prog 33 #[v,.agg #[.int .i64 d,.int .i64 b],.func (.func 34) #[] #[]] w fun e w' => ∃ (i:Nat) (hit:Bool),BelP Hnd.ky l (d,b) i hit ∧ e = .returned (.tuple #[.int .i64 (i:Int),.bool hit]) ∧ Below w.heap.size w w':=by
  obtain ⟨p,c,rfl,hR⟩:=hv
  have hal:=((Below.refl w.heap.size w).alloc (Nat.le_refl _) (.cells #[.int .i64 d,.int .i64 b] 34)).alloc (by simp) (.cells #[.func (.func 34) #[] #[]] 83)
  have HB:=Lib.hid hal
  have HX:=Lib.hid ((Blk.new w 34 #[.int .i64 d,.int .i64 b]).alloc (.cells #[.func (.func 34) #[] #[]] 83))
  have hA:=Blk.new (w.alloc (.cells #[.int .i64 d,.int .i64 b] 34)) 83 #[.func (.func 34) #[] #[]]
  rw [World.size_alloc] at hA
  have hlt:=hA.lt
  have hcl:=hA.c1.1
  obtain ⟨W2,hW2⟩:∃ X,X = (w.alloc (.cells #[.int .i64 d,.int .i64 b] 34)).alloc (.cells #[.func (.func 34) #[] #[]] 83):=⟨_,rfl⟩
  rw [← hW2] at HB HX hA hlt hcl hal
  have hbs:=bs_hand 67 (.pointer (some ⟨w.heap.size + 1,0,none⟩)) l p c d b (cAt Hnd.ky l (d,b)) W2 (hR.kept hal) hn (enters_of Tryz.func67 (by kernel_rfl) rfl) (fun i hi W hW => by rw [cAt_at hi];exact cl_place _ _ _ _ _ _ _ d b (w.heap.size + 1) W (Nat.lt_of_lt_of_le hlt hW.size) ((hW.cell (p:=⟨w.heap.size + 1,0,none⟩) hlt).trans hcl))
  have hbs2:Calls Tryz.prog 66 #[.slice p l.length c,.agg #[.int .i64 d,.int .i64 b],.func (.func 67) #[] #[.pointer (some ⟨w.heap.size + 1,0,none⟩)]] W2 fun e w' => ∃ (i:Nat) (hit:Bool),BelP Hnd.ky l (d,b) i hit ∧ e = .returned (.tuple #[.int .i64 (i:Int),.bool hit]) ∧ Below W2.heap.size W2 w':=hbs.mono fun e w' ⟨i,h1,h2,h3⟩ => ⟨i,_,halved_belP hs h1,h2,h3⟩
  have HBS:=Lib.hid hbs2;clear hbs hbs2 hR hA hlt hcl hal
  go_enter Tryz.func33,Tryz.ntmps33
  go_upto_region 1 with fail
  rw [← hW2]
  clear hW2
  obtain ⟨x0,x1,xf0,xf1⟩:=HX.out.c2
  go_wp2_with (with_reducible refine (HBS.out.mono ?_);rintro e w' ⟨i,hit,hbl,rfl,hb⟩;have HBL:=Lib.hid hbl;clear hbl;replace HB:=Lib.hid (bch' HB.out hb);clear hb)
  go_ret2
  exact ⟨i,hit,HBL.out,rfl,HB.out⟩
end Go.Proofs.YtmjkenlifgmeeaaGreatDoor
namespace Lum
open Go Go.RowKit Go.Shelf
open Go.Lib (decDigits itoa)
def finI (l:List Hnd) (p:Int × Int):Int:=if ixOf (fun x:Hnd => x.ky == p) l < 0 then 0 else ixOf (fun x:Hnd => x.ky == p) l
def finB (l:List Hnd) (p:Int × Int):Bool:=decide (0 ≤ ixOf (fun x:Hnd => x.ky == p) l)
def hnsE (l:List Hnd):Int:=ordP 256 hndE Hnd.ky l
def finT (l:List Hnd) (p:Int × Int):Int × Bool × Int:=if hnsE l ≠ 0 then (0,false,hnsE l) else (finI l p,finB l p,0)
theorem fin_hit {l:List Hnd} {p:Int × Int} {i:Nat} (h:BelP Hnd.ky l p i true):finI l p = (i:Int) ∧ finB l p = true:=by
  unfold finI finB;rw [h.ix];exact ⟨if_neg (by omega),decide_eq_true (by omega)⟩
theorem fin_miss {l:List Hnd} {p:Int × Int} {i:Nat} (h:BelP Hnd.ky l p i false):finI l p = 0 ∧ finB l p = false:=by
  unfold finI finB;rw [h.ix_no];exact ⟨if_pos (by decide),decide_eq_false (by decide)⟩
end Lum
namespace Go.Proofs.YtmjkenlifgmeeaaGreatDoor
open Go.RowKit Go.Shelf Lum
open Go.Lib (decDigits itoa)
attribute [local go_sem] bs_get bs_extract_end bs_extract_from bs_extract bs_append
theorem eq_par (W:World) (a b c d:Int):(binOp .eql 34 (.agg #[.int .i64 a,.int .i64 b]) (.agg #[.int .i64 c,.int .i64 d])).run Tryz.prog W = .ok (.bool ((a == c) && (b == d))) W:=by
  have u3:=Tryz.underlying3
  have a3:=Tryz.isAgg3
  have z3:=Tryz.sizeOf3
  have hS:Tryz.prog.underlying 34 = some (.struct (Tryz.prog.fieldsOf 34)):=by kernel_rfl
  have hp:Tryz.prog.stoodInHeld 34 = false:=by kernel_rfl
  rw [run_eql_struct,show (10000:Nat) = 9999 + 1 from rfl,run_equalIn_agg W 9999 34 _ _ hS hp]
  simp only [Program.fieldsOf,Tryz.underlying34]
  go_simp
  by_cases h1:a = c <;> by_cases h2:b = d <;> simp [h1,h2]
theorem neq_par (W:World) (a b c d:Int):(binOp .neq 34 (.agg #[.int .i64 a,.int .i64 b]) (.agg #[.int .i64 c,.int .i64 d])).run Tryz.prog W = .ok (.bool (!((a == c) && (b == d)))) W:=by
  have h1:Tryz.prog.underlying 34 = some (.struct (Tryz.prog.fieldsOf 34)):=by kernel_rfl
  have h2:Tryz.prog.stoodInHeld 34 = false:=by kernel_rfl
  rw [run_neq_struct,run_equalIn_agg W 9999 _ _ _ h1 h2]
  have hf:=TypeDesc.struct.inj (Option.some.inj (h1.symm.trans Tryz.underlying34))
  rw [hf]
  simp [Op.eqFields,go_sem,Tryz.underlying3]
  by_cases e1:a = c
  · by_cases e2:b = d
    · simp [e1,e2]
    · simp [e1,e2]
  · simp [e1]
end Go.Proofs.YtmjkenlifgmeeaaGreatDoor
namespace Go.Proofs.YtmjkenlifgmeeaaGreatDoor
open Go.RowKit Go.Shelf Lum
open Go.Lib (decDigits itoa)
attribute [local go_sem] bs_get bs_extract_end bs_extract_from bs_extract bs_append
end Go.Proofs.YtmjkenlifgmeeaaGreatDoor
