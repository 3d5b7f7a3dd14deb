import Derived.Test.YtmjkenlifgmeeaaGreatDoorQzSw
import Derived.Test.YtmjkenlifgmeeaaGreatDoorQzQq
import Derived.Test.YtmjkenlifgmeeaaGreatDoorQzGl
set_option maxRecDepth 100000
set_option maxHeartbeats 8000000
set_option linter.unusedVariables false
set_option linter.unusedSimpArgs false
namespace Go.Proofs.YtmjkenlifgmeeaaGreatDoor
open Go.RowKit Go.Shelf Lum
open Go.Lib (decDigits itoa)
attribute [local go_sem] bs_get bs_extract_end bs_extract_from bs_extract bs_append
theorem own_scompare (c a d b : Int) (w : World) (hc : (0 ≤ c ∧ c ≤ 1000000) ∧ (0 ≤ d ∧ d ≤ 1000000)) (ha : (0 ≤ a ∧ a ≤ 1000000) ∧ (0 ≤ b ∧ b ≤ 1000000)) :
    Calls Tryz.prog 101 #[.agg #[.int .i64 c,.int .i64 a],.agg #[.int .i64 d,.int .i64 b]] w fun e w' => e = .returned (.int .i64 (cmpP c a d b)) ∧ Below w.heap.size w w':=by
  have hb:=((Below.refl w.heap.size w).alloc (Nat.le_refl _) (.cells #[.int .i64 c,.int .i64 a] 34)).alloc (by simp) (.cells #[.int .i64 d,.int .i64 b] 34)
  have HB:=Lib.hid hb;clear hb
  have e1:IntKind.i64.wrap (c - d) = c - d:=IntWalk.i64_in _ (by omega)
  have e2:IntKind.i64.wrap (a - b) = a - b:=IntWalk.i64_in _ (by omega)
  unfold cmpP
  by_cases h:c = d
  · rw [if_neg (by simpa using h)]
    have hn:((c:Int) != d) = false:=by simpa using h
    clear hc ha h
    go_enter Tryz.func101,Tryz.ntmps101
    go_wp2_with fail
    go_ret
    exact ⟨rfl,HB.out⟩
  · rw [if_pos h]
    have hn:((c:Int) != d) = true:=by simpa using h
    clear hc ha h
    go_enter Tryz.func101,Tryz.ntmps101
    go_wp2_with fail
    go_ret
    exact ⟨rfl,HB.out⟩
theorem own_sparam (ch at_ : Int) (w : World) :
    Calls Tryz.prog 45 #[.agg #[.int .i64 ch,.int .i64 at_]] w fun e w' => e = .returned (.int .i64 (parE ch at_)) ∧ Below w.heap.size w w':=by
  have HK:=Lib.hid (Blk.new w 34 #[.int .i64 ch,.int .i64 at_])
  have HB:=Lib.hid ((Below.refl w.heap.size w).alloc (Nat.le_refl _) (.cells #[.int .i64 ch,.int .i64 at_] 34))
  obtain ⟨k0,k1,kf0,kf1⟩:=HK.out.c2
  by_cases o0:ch < 1
  · rw [parE_out (by omega)]
    go_enter Tryz.func45,Tryz.ntmps45
    go_wp2_with fail
    go_ret
    exact ⟨rfl,HB.out⟩
  by_cases o1:999 < ch
  · rw [parE_out (by omega)]
    go_enter Tryz.func45,Tryz.ntmps45
    go_wp2_with fail
    go_ret
    exact ⟨rfl,HB.out⟩
  by_cases o2:at_ < 0
  · rw [parE_out (by omega)]
    go_enter Tryz.func45,Tryz.ntmps45
    go_wp2_with fail
    go_ret
    exact ⟨rfl,HB.out⟩
  by_cases o3:15 ≤ at_
  · rw [parE_out (by omega)]
    go_enter Tryz.func45,Tryz.ntmps45
    go_wp2_with fail
    go_ret
    exact ⟨rfl,HB.out⟩
  rw [parE_in (by omega)]
  go_enter Tryz.func45,Tryz.ntmps45
  go_wp2_with fail
  go_ret
  exact ⟨rfl,HB.out⟩
end Go.Proofs.YtmjkenlifgmeeaaGreatDoor
namespace Go.Proofs.YtmjkenlifgmeeaaGreatDoor
open Go.RowKit Go.Shelf Lum
open Go.Lib (decDigits itoa)
attribute [local go_sem] bs_get bs_extract_end bs_extract_from bs_extract bs_append
theorem own_scheck (nu pr : Int) (inh : Bool) (gs : List Gn) (gv : Value) (w : World) (hv : GnsAt w gv gs) :
    Calls Tryz.prog 89 #[.agg #[.int .i64 nu,.int .i64 pr,.bool (inh),gv]] w fun e w' => e = .returned (.int .i64 (subE nu pr inh gs)) ∧ Below w.heap.size w w':=by
  obtain ⟨p,c,rfl,-,hv1⟩:=hv
  have hv2:=Lib.hid hv1;clear hv1
  have HK:=Lib.hid (Blk.new w 63 #[.int .i64 nu,.int .i64 pr,.bool (inh),.slice p gs.length c])
  have HB:=Lib.hid ((Below.refl w.heap.size w).alloc (Nat.le_refl _) (.cells #[.int .i64 nu,.int .i64 pr,.bool (inh),.slice p gs.length c] 63))
  obtain ⟨k0,k1,k2,k3,kf0,kf1,kf2,kf3⟩:=HK.out.c4
  by_cases o0:nu < 1
  · rw [subE_num (by omega)]
    go_enter Tryz.func89,Tryz.ntmps89
    go_wp2_with fail
    go_ret
    exact ⟨rfl,HB.out⟩
  by_cases o1:1048576 < nu
  · rw [subE_num (by omega)]
    go_enter Tryz.func89,Tryz.ntmps89
    go_wp2_with fail
    go_ret
    exact ⟨rfl,HB.out⟩
  by_cases o2:pr < 0
  · rw [subE_num (by omega)]
    go_enter Tryz.func89,Tryz.ntmps89
    go_wp2_with fail
    go_ret
    exact ⟨rfl,HB.out⟩
  by_cases o3:9 < pr
  · rw [subE_num (by omega)]
    go_enter Tryz.func89,Tryz.ntmps89
    go_wp2_with fail
    go_ret
    exact ⟨rfl,HB.out⟩
  have on:¬ (nu < 1 ∨ 1048576 < nu ∨ pr < 0 ∨ 9 < pr):=by omega
  by_cases o4:128 < gs.length
  · have o5:(128:Int) < (gs.length:Int):=by omega
    rw [subE_many on o4]
    clear on
    go_enter Tryz.func89,Tryz.ntmps89
    go_wp2_with fail
    go_ret
    exact ⟨rfl,HB.out⟩
  · have o5:¬ (128:Int) < (gs.length:Int):=by omega
    have hE:=subE_gs (inh:=inh) on o4
    have HE:=Lib.hid hE;clear hE on
    go_enter Tryz.func89,Tryz.ntmps89
    go_wp2_with fail
    go_loopw [31] (fun i wr => ∃ k r:Nat,i = .int .i64 (k:Int) ∧ Hid (k + r = gs.length) ∧ Hid (Below w.heap.size w wr) ∧ Hid (Blk wr w.heap.size 63 #[.int .i64 nu,.int .i64 pr,.bool inh,.slice p gs.length c]) ∧ Hid (gaE inh gs r k = gaE inh gs gs.length 0) ∧ Hid (∀ j,j < k → parE (gnv gs j).ch (gnv gs j).at_ = 0)) (fun i _ => gs.length - (intOf i).toNat)
    case atStart => exact ⟨0,gs.length,rfl,Lib.hid (by omega),HB,HK,Lib.hid rfl,Lib.hid (fun j h => absurd h (Nat.not_lt_zero j))⟩
    case round =>
      obtain ⟨k,r,rfl,hkr,HB2,HK2,HS,HP⟩:=hrel
      clear HB HK k0 k1 k2 k3 kf0 kf1 kf2 kf3
      have HB:=HB2;have HK:=HK2;clear HB2 HK2
      obtain ⟨k0,k1,k2,k3,kf0,kf1,kf2,kf3⟩:=HK.out.c4
      cases r with
      | zero =>
        have hlt:¬ (k:Int) < (gs.length:Int):=by have:=hkr.out;omega
        have he:subE nu pr inh gs = 0:=by rw [HE.out,← HS.out];rfl
        have HE2:=Lib.hid he;clear he
        go_wp2
        go_ret
        exact ⟨by rw [HE2.out];rfl,HB.out⟩
      | succ r =>
        have hkl:k < gs.length:=by have:=hkr.out;omega
        have hlt:(k:Int) < (gs.length:Int):=by omega
        obtain ⟨b,o,rfl,hb,hC⟩:=hv2.out (fun h => by subst h;simp at hkl)
        have HC:=Lib.hid hC;clear hC
        replace HC:Hid (GnsC w b o gs):=HC
        obtain ⟨x1,x2,x3⟩:=HC.out.below HB.out hb k hkl
        have hbr:b < wr.heap.size:=by have:=HB.out.size;omega
        have hun:IntKind.i64.wrap ((k:Int) + 1) = (k:Int) + 1:=IntWalk.i64_in _ (by omega)
        have hpa:=fun W => own_sparam (gnv gs k).ch (gnv gs k).at_ W
        have hG:=Blk.new wr 106 #[.int .i64 (gnv gs k).ch,.int .i64 (gnv gs k).at_,.int .i64 (gnv gs k).lev]
        have HG:=Lib.hid hG;clear hG
        replace HB:=Lib.hid (HB.out.alloc HB.out.size (.cells #[.int .i64 (gnv gs k).ch,.int .i64 (gnv gs k).at_,.int .i64 (gnv gs k).lev] 106))
        replace HK:=Lib.hid (HK.out.alloc (.cells #[.int .i64 (gnv gs k).ch,.int .i64 (gnv gs k).at_,.int .i64 (gnv gs k).lev] 106))
        clear k0 k1 k2 k3 kf0 kf1 kf2 kf3
        obtain ⟨k0,k1,k2,k3,kf0,kf1,kf2,kf3⟩:=HK.out.c4
        obtain ⟨g0,g1,g2,gf0,gf1,gf2⟩:=HG.out.c3
        by_cases c1:parE (gnv gs k).ch (gnv gs k).at_ = 0
        · rw [c1] at hpa
          obtain ⟨⟨p1,p2⟩,p3,p4⟩:=parE_zero c1
          by_cases o0:(gnv gs k).lev < 0
          · have he:subE nu pr inh gs = 2:=by rw [HE.out,← HS.out,gaE_lev c1 (by omega)]
            have HE2:=Lib.hid he;clear he c1 HS HE HP
            have HPA:=Lib.hid hpa;clear hpa
            go_wp2_with (first | (with_reducible refine ((HPA.out _).mono ?_);rintro e w' ⟨rfl,hb⟩;replace HK:=Lib.hid (HK.out.keep hb);clear k0 k1 k2 k3 kf0 kf1 kf2 kf3;replace HG:=Lib.hid (HG.out.keep hb);clear g0 g1 g2 gf0 gf1 gf2;replace HB:=Lib.hid (bch' HB.out hb);clear hb;obtain ⟨k0,k1,k2,k3,kf0,kf1,kf2,kf3⟩:=HK.out.c4;obtain ⟨g0,g1,g2,gf0,gf1,gf2⟩:=HG.out.c3))
            go_ret
            exact ⟨by rw [HE2.out];rfl,HB.out⟩
          by_cases o1:65535 < (gnv gs k).lev
          · have he:subE nu pr inh gs = 2:=by rw [HE.out,← HS.out,gaE_lev c1 (by omega)]
            have HE2:=Lib.hid he;clear he c1 HS HE HP
            have HPA:=Lib.hid hpa;clear hpa
            go_wp2_with (first | (with_reducible refine ((HPA.out _).mono ?_);rintro e w' ⟨rfl,hb⟩;replace HK:=Lib.hid (HK.out.keep hb);clear k0 k1 k2 k3 kf0 kf1 kf2 kf3;replace HG:=Lib.hid (HG.out.keep hb);clear g0 g1 g2 gf0 gf1 gf2;replace HB:=Lib.hid (bch' HB.out hb);clear hb;obtain ⟨k0,k1,k2,k3,kf0,kf1,kf2,kf3⟩:=HK.out.c4;obtain ⟨g0,g1,g2,gf0,gf1,gf2⟩:=HG.out.c3))
            go_ret
            exact ⟨by rw [HE2.out];rfl,HB.out⟩
          have c2:¬ ((gnv gs k).lev < 0 ∨ 65535 < (gnv gs k).lev):=by omega
          by_cases c3:inh = true ∧ (gnv gs k).at_ ≠ 0
          · have he:subE nu pr inh gs = 11:=by rw [HE.out,← HS.out,gaE_use c1 c2 c3]
            have HE2:=Lib.hid he;clear he c1 HS HE HP c2
            obtain ⟨rfl,c4⟩:=c3
            have c5:(((gnv gs k).at_:Int) != 0) = true:=by simpa using c4
            clear c4
            have HPA:=Lib.hid hpa;clear hpa
            go_wp2_with (first | (with_reducible refine ((HPA.out _).mono ?_);rintro e w' ⟨rfl,hb⟩;replace HK:=Lib.hid (HK.out.keep hb);clear k0 k1 k2 k3 kf0 kf1 kf2 kf3;replace HG:=Lib.hid (HG.out.keep hb);clear g0 g1 g2 gf0 gf1 gf2;replace HB:=Lib.hid (bch' HB.out hb);clear hb;obtain ⟨k0,k1,k2,k3,kf0,kf1,kf2,kf3⟩:=HK.out.c4;obtain ⟨g0,g1,g2,gf0,gf1,gf2⟩:=HG.out.c3))
            go_ret
            exact ⟨by rw [HE2.out];rfl,HB.out⟩
          · have c4:inh = false ∨ (inh = true ∧ (((gnv gs k).at_:Int) != 0) = false):=by
              cases inh
              · exact .inl rfl
              · exact .inr ⟨rfl,by simpa using fun h => c3 ⟨rfl,h⟩⟩
            by_cases hk0:0 < k
            · have hk1:k - 1 < gs.length:=by omega
              have hg0:decide (0 < k) = true:=decide_eq_true hk0
              have hgi:(0:Int) < (k:Int):=by omega
              have hm1:IntKind.i64.wrap ((k:Int) - 1) = ((k - 1:Nat):Int):=by rw [IntWalk.i64_in _ (by omega)];omega
              have hpv:=HP.out (k - 1) (by omega)
              obtain ⟨⟨u1,u2⟩,u3,u4⟩:=parE_zero hpv
              have hcm:=fun W => own_scompare (gnv gs (k - 1)).ch (gnv gs (k - 1)).at_ (gnv gs k).ch (gnv gs k).at_ W (by omega) (by omega)
              clear hpv u1 u2 u3 u4 p1 p2 p3 p4
              by_cases c5:befP (gnv gs (k - 1)).ch (gnv gs (k - 1)).at_ (gnv gs k).ch (gnv gs k).at_
              · have HF:Hid (gaE inh gs r (k + 1) = gaE inh gs gs.length 0):=by show _ = _;rw [← HS.out,gaE_go c1 c2 c3 (fun h => h.2 c5)]
                have HP2:Hid (∀ j,j < k + 1 → parE (gnv gs j).ch (gnv gs j).at_ = 0):=fun j hj => by
                  by_cases e:j = k
                  · subst e;exact c1
                  · exact HP.out j (by omega)
                clear HS HP HE
                have hcv:decide (0 ≤ cmpP (gnv gs (k - 1)).ch (gnv gs (k - 1)).at_ (gnv gs k).ch (gnv gs k).at_) = false:=decide_eq_false (cmpP_neg.2 c5)
                generalize cmpP (gnv gs (k - 1)).ch (gnv gs (k - 1)).at_ (gnv gs k).ch (gnv gs k).at_ = cv at *
                clear c1 c2 c3
                clear c5
                have HPA:=Lib.hid hpa;clear hpa
                have HCM:=Lib.hid hcm;clear hcm
                rcases c4 with rfl | ⟨rfl,c6⟩
                all_goals
                  go_wp2_with (first | (with_reducible refine ((HPA.out _).mono ?_);rintro e w' ⟨rfl,hb⟩;replace HK:=Lib.hid (HK.out.keep hb);clear k0 k1 k2 k3 kf0 kf1 kf2 kf3;replace HG:=Lib.hid (HG.out.keep hb);clear g0 g1 g2 gf0 gf1 gf2;replace HB:=Lib.hid (bch' HB.out hb);clear hb;obtain ⟨k0,k1,k2,k3,kf0,kf1,kf2,kf3⟩:=HK.out.c4;obtain ⟨g0,g1,g2,gf0,gf1,gf2⟩:=HG.out.c3))
                  have f0:=fun p:BelowOf _ => (HK.out.keep p.h).c4.1
                  have f1:=fun p:BelowOf _ => (HK.out.keep p.h).c4.2.1
                  have f2:=fun p:BelowOf _ => (HK.out.keep p.h).c4.2.2.1
                  have f3:=fun p:BelowOf _ => (HK.out.keep p.h).c4.2.2.2.1
                  have g0q:=fun p:BelowOf _ => (HG.out.keep p.h).c3.1
                  have g1q:=fun p:BelowOf _ => (HG.out.keep p.h).c3.2.1
                  have g2q:=fun p:BelowOf _ => (HG.out.keep p.h).c3.2.2.1
                  have r1:=fun p:BelowOf _ => ((HC.out.below (bch' HB.out p.h) hb) (k - 1) hk1).1
                  have r2:=fun p:BelowOf _ => ((HC.out.below (bch' HB.out p.h) hb) (k - 1) hk1).2.1
                  refine wp_region_WQ (by kernel_rfl) (by kernel_rfl) ?_
                  repeat (refine WQ.step (fun K hK => ?_);go_simp;first | (refine hK.out _ ?_;clear hK K) | (apply Exists.intro;refine ⟨fun _ => ?_,hK.out _ ?_⟩;(first | rfl | (go_at_call 101;exact calls_below_of _ (HCM.out _)));clear hK K))
                  refine WQ.nil ?_
                  intro _ hw'
                  obtain ⟨⟨wq,hbq⟩,hw2⟩:=hw'
                  subst hw2
                  replace HK:=Lib.hid (HK.out.keep hbq)
                  replace HB:=Lib.hid (bch' HB.out hbq)
                  clear f0 f1 f2 f3 g0q g1q g2q r1 r2
                  go_wp2_with fail
                  go_roundw
                  case rel => exact ⟨k + 1,r,by first | rfl | simp,Lib.hid (by have:=hkr.out;omega),HB,HK,HF,HP2⟩
                  case measure => first | (simp [intOf];done) | (simp [intOf];omega)
              · have he:subE nu pr inh gs = 9:=by rw [HE.out,← HS.out,gaE_ord c1 c2 c3 ⟨hk0,c5⟩]
                have HE2:=Lib.hid he;clear he
                have hcv:decide (0 ≤ cmpP (gnv gs (k - 1)).ch (gnv gs (k - 1)).at_ (gnv gs k).ch (gnv gs k).at_) = true:=decide_eq_true (Decidable.not_not.1 fun h => c5 (cmpP_neg.1 h))
                generalize cmpP (gnv gs (k - 1)).ch (gnv gs (k - 1)).at_ (gnv gs k).ch (gnv gs k).at_ = cv at *
                clear c1 c2 c3
                clear c5 HS HE HP
                have HPA:=Lib.hid hpa;clear hpa
                have HCM:=Lib.hid hcm;clear hcm
                rcases c4 with rfl | ⟨rfl,c6⟩
                all_goals
                  go_wp2_with (first | (with_reducible refine ((HPA.out _).mono ?_);rintro e w' ⟨rfl,hb⟩;replace HK:=Lib.hid (HK.out.keep hb);clear k0 k1 k2 k3 kf0 kf1 kf2 kf3;replace HG:=Lib.hid (HG.out.keep hb);clear g0 g1 g2 gf0 gf1 gf2;replace HB:=Lib.hid (bch' HB.out hb);clear hb;obtain ⟨k0,k1,k2,k3,kf0,kf1,kf2,kf3⟩:=HK.out.c4;obtain ⟨g0,g1,g2,gf0,gf1,gf2⟩:=HG.out.c3))
                  have f0:=fun p:BelowOf _ => (HK.out.keep p.h).c4.1
                  have f1:=fun p:BelowOf _ => (HK.out.keep p.h).c4.2.1
                  have f2:=fun p:BelowOf _ => (HK.out.keep p.h).c4.2.2.1
                  have f3:=fun p:BelowOf _ => (HK.out.keep p.h).c4.2.2.2.1
                  have g0q:=fun p:BelowOf _ => (HG.out.keep p.h).c3.1
                  have g1q:=fun p:BelowOf _ => (HG.out.keep p.h).c3.2.1
                  have g2q:=fun p:BelowOf _ => (HG.out.keep p.h).c3.2.2.1
                  have r1:=fun p:BelowOf _ => ((HC.out.below (bch' HB.out p.h) hb) (k - 1) hk1).1
                  have r2:=fun p:BelowOf _ => ((HC.out.below (bch' HB.out p.h) hb) (k - 1) hk1).2.1
                  refine wp_region_WQ (by kernel_rfl) (by kernel_rfl) ?_
                  repeat (refine WQ.step (fun K hK => ?_);go_simp;first | (refine hK.out _ ?_;clear hK K) | (apply Exists.intro;refine ⟨fun _ => ?_,hK.out _ ?_⟩;(first | rfl | (go_at_call 101;exact calls_below_of _ (HCM.out _)));clear hK K))
                  refine WQ.nil ?_
                  intro _ hw'
                  obtain ⟨⟨wq,hbq⟩,hw2⟩:=hw'
                  subst hw2
                  replace HK:=Lib.hid (HK.out.keep hbq)
                  replace HB:=Lib.hid (bch' HB.out hbq)
                  clear f0 f1 f2 f3 g0q g1q g2q r1 r2
                  go_wp2_with fail
                  go_ret
                  exact ⟨by rw [HE2.out];rfl,HB.out⟩
            · have HF:Hid (gaE inh gs r (k + 1) = gaE inh gs gs.length 0):=by show _ = _;rw [← HS.out,gaE_go c1 c2 c3 (fun h => hk0 h.1)]
              have HP2:Hid (∀ j,j < k + 1 → parE (gnv gs j).ch (gnv gs j).at_ = 0):=fun j hj => by
                by_cases e:j = k
                · subst e;exact c1
                · exact HP.out j (by omega)
              clear HS HP HE
              obtain rfl:k = 0:=by omega
              clear c1 c2 c3
              have HPA:=Lib.hid hpa;clear hpa
              simp only [Nat.zero_mul,Nat.add_zero] at x1 x2 x3
              rcases c4 with rfl | ⟨rfl,c6⟩
              all_goals
                go_wp2_with (first | (with_reducible refine ((HPA.out _).mono ?_);rintro e w' ⟨rfl,hb⟩;replace HK:=Lib.hid (HK.out.keep hb);clear k0 k1 k2 k3 kf0 kf1 kf2 kf3;replace HG:=Lib.hid (HG.out.keep hb);clear g0 g1 g2 gf0 gf1 gf2;replace HB:=Lib.hid (bch' HB.out hb);clear hb;obtain ⟨k0,k1,k2,k3,kf0,kf1,kf2,kf3⟩:=HK.out.c4;obtain ⟨g0,g1,g2,gf0,gf1,gf2⟩:=HG.out.c3))
                have f0:=fun p:BelowOf _ => (HK.out.keep p.h).c4.1
                have f1:=fun p:BelowOf _ => (HK.out.keep p.h).c4.2.1
                have f2:=fun p:BelowOf _ => (HK.out.keep p.h).c4.2.2.1
                have f3:=fun p:BelowOf _ => (HK.out.keep p.h).c4.2.2.2.1
                have g0q:=fun p:BelowOf _ => (HG.out.keep p.h).c3.1
                have g1q:=fun p:BelowOf _ => (HG.out.keep p.h).c3.2.1
                have g2q:=fun p:BelowOf _ => (HG.out.keep p.h).c3.2.2.1
                refine wp_region_WQ (by kernel_rfl) (by kernel_rfl) ?_
                repeat (refine WQ.step (fun K hK => ?_);go_simp;first | (refine hK.out _ ?_;clear hK K) | (apply Exists.intro;refine ⟨fun _ => ?_,hK.out _ ?_⟩;(first | rfl);clear hK K))
                refine WQ.nil ?_
                intro _ hw'
                obtain ⟨⟨wq,hbq⟩,hw2⟩:=hw'
                subst hw2
                replace HK:=Lib.hid (HK.out.keep hbq)
                replace HB:=Lib.hid (bch' HB.out hbq)
                clear f0 f1 f2 f3 g0q g1q g2q
                go_wp2_with fail
                go_roundw
                case rel => exact ⟨0 + 1,r,by first | rfl | simp,Lib.hid (by have:=hkr.out;omega),HB,HK,HF,HP2⟩
                case measure => first | (simp [intOf];done) | (simp [intOf];omega)
        · have he:subE nu pr inh gs = parE (gnv gs k).ch (gnv gs k).at_:=by rw [HE.out,← HS.out,gaE_par c1]
          have hne:((parE (gnv gs k).ch (gnv gs k).at_:Int) != 0) = true:=by simpa using c1
          have HE2:=Lib.hid he;clear he c1 HS HE HP
          generalize parE (gnv gs k).ch (gnv gs k).at_ = m at *
          have HPA:=Lib.hid hpa;clear hpa
          go_wp2_with (first | (with_reducible refine ((HPA.out _).mono ?_);rintro e w' ⟨rfl,hb⟩;replace HK:=Lib.hid (HK.out.keep hb);clear k0 k1 k2 k3 kf0 kf1 kf2 kf3;replace HG:=Lib.hid (HG.out.keep hb);clear g0 g1 g2 gf0 gf1 gf2;replace HB:=Lib.hid (bch' HB.out hb);clear hb;obtain ⟨k0,k1,k2,k3,kf0,kf1,kf2,kf3⟩:=HK.out.c4;obtain ⟨g0,g1,g2,gf0,gf1,gf2⟩:=HG.out.c3))
          go_ret
          exact ⟨by rw [HE2.out];rfl,HB.out⟩
end Go.Proofs.YtmjkenlifgmeeaaGreatDoor
namespace Go.Proofs.YtmjkenlifgmeeaaGreatDoor
open Go.RowKit Go.Shelf Lum
open Go.Lib (decDigits itoa)
attribute [local go_sem] bs_get bs_extract_end bs_extract_from bs_extract bs_append
theorem own_sfaders (l : List Fdr) (v : Value) (w : World) (hv : FdsAt w v l) (hf : ∀ i, i < l.length → (fdv l i).fr.length ≤ 1000) (env : Env w) :
    Calls Tryz.prog 90 #[v] w fun e w' => e = .returned (.int .i64 (facE l)) ∧ Below w.heap.size w w':=by
  have ENV:=Lib.hid env;clear env
  obtain ⟨p,c,rfl,-,hv1⟩:=hv
  have hv2:=Lib.hid hv1;clear hv1
  have hfr:=Lib.hid hf;clear hf
  have HB:=Lib.hid (Below.refl w.heap.size w)
  by_cases o4:16 < l.length
  · have o5:(16:Int) < (l.length:Int):=by omega
    rw [facE_many o4]
    go_enter Tryz.func90,Tryz.ntmps90
    go_wp2_with fail
    go_ret
    exact ⟨rfl,HB.out⟩
  · have o5:¬ (16:Int) < (l.length:Int):=by omega
    have hE:=facE_few o4
    have HE:=Lib.hid hE;clear hE
    go_enter Tryz.func90,Tryz.ntmps90
    go_wp2_with fail
    go_loopw [3,12] (fun la i wr => ∃ k r:Nat,i = .int .i64 (k:Int) ∧ la = .int .i64 (lastF l k) ∧ Hid (k + r = l.length) ∧ Hid (Below w.heap.size w wr) ∧ Hid (fuE l r k = fuE l l.length 0)) (fun _ i _ => l.length - (intOf i).toNat)
    case atStart => exact ⟨0,l.length,rfl,rfl,Lib.hid (by omega),HB,Lib.hid rfl⟩
    case round =>
      obtain ⟨k,r,rfl,rfl,hkr,HB2,HS⟩:=hrel
      clear HB
      have HB:=HB2;clear HB2
      cases r with
      | zero =>
        have hlt:¬ (k:Int) < (l.length:Int):=by have:=hkr.out;omega
        have he:facE l = 0:=by rw [HE.out,← HS.out];rfl
        have HE2:=Lib.hid he;clear he
        go_wp2
        go_ret
        exact ⟨by rw [HE2.out];rfl,HB.out⟩
      | succ r =>
        have hkl:k < l.length:=by have:=hkr.out;omega
        have hlt:(k:Int) < (l.length:Int):=by omega
        obtain ⟨b,o,rfl,hb,hC⟩:=hv2.out (fun h => by subst h;simp at hkl)
        replace hC:FdsC w b o l:=hC
        obtain ⟨x1,x2,x3,x4,x5,x6⟩:=hC.below HB.out hb k hkl
        clear hC
        have hbr:b < wr.heap.size:=by have:=HB.out.size;omega
        have hun:IntKind.i64.wrap ((k:Int) + 1) = (k:Int) + 1:=IntWalk.i64_in _ (by omega)
        have hal:=(Below.refl wr.heap.size wr).alloc (Nat.le_refl _) (.cells #[.int .i64 (fdv l k).su,.string ⟨(fdv l k).fr.toArray⟩,.int .i64 (fdv l k).tz,.int .i64 (fdv l k).st,.int .i64 (fdv l k).ti,.int .i64 (fdv l k).stp] 95)
        have hG:=Blk.new wr 95 #[.int .i64 (fdv l k).su,.string ⟨(fdv l k).fr.toArray⟩,.int .i64 (fdv l k).tz,.int .i64 (fdv l k).st,.int .i64 (fdv l k).ti,.int .i64 (fdv l k).stp]
        have HG:=Lib.hid hG;clear hG
        replace HB:=Lib.hid (bch' HB.out hal)
        clear hal
        obtain ⟨g0,g1,g2,g3,g4,g5,gf0,gf1,gf2,gf3,gf4,gf5⟩:=HG.out.c6
        have hck:=fun W (e:Env W) => own_gcheck (fdv l k).fr (fdv l k).tz (fdv l k).st (fdv l k).ti W (hfr.out k hkl) e
        change ∀ W (e:Env W),Calls _ _ _ W (fun e w' => e = .returned (.int .i64 (fgE (fdv l k))) ∧ _) at hck
        by_cases o0:(fdv l k).su < 1
        · have he:facE l = 2:=by rw [HE.out,← HS.out,fuE_su (by omega)]
          have HE2:=Lib.hid he;clear he HS HE
          have HCK:=Lib.hid hck;clear hck
          go_wp2_with (first | (with_reducible refine ((HCK.out _ (ENV.out.below HB.out)).mono ?_);rintro e w' ⟨rfl,hb⟩;replace HG:=Lib.hid (HG.out.keep hb);clear g0 g1 g2 g3 g4 g5 gf0 gf1 gf2 gf3 gf4 gf5;replace HB:=Lib.hid (bch' HB.out hb);clear hb;obtain ⟨g0,g1,g2,g3,g4,g5,gf0,gf1,gf2,gf3,gf4,gf5⟩:=HG.out.c6))
          go_ret
          exact ⟨by rw [HE2.out];rfl,HB.out⟩
        by_cases o1:1048576 < (fdv l k).su
        · have he:facE l = 2:=by rw [HE.out,← HS.out,fuE_su (by omega)]
          have HE2:=Lib.hid he;clear he HS HE
          have HCK:=Lib.hid hck;clear hck
          go_wp2_with (first | (with_reducible refine ((HCK.out _ (ENV.out.below HB.out)).mono ?_);rintro e w' ⟨rfl,hb⟩;replace HG:=Lib.hid (HG.out.keep hb);clear g0 g1 g2 g3 g4 g5 gf0 gf1 gf2 gf3 gf4 gf5;replace HB:=Lib.hid (bch' HB.out hb);clear hb;obtain ⟨g0,g1,g2,g3,g4,g5,gf0,gf1,gf2,gf3,gf4,gf5⟩:=HG.out.c6))
          go_ret
          exact ⟨by rw [HE2.out];rfl,HB.out⟩
        have c0:¬ ((fdv l k).su < 1 ∨ 1048576 < (fdv l k).su):=by omega
        by_cases c1:fgE (fdv l k) = 0
        · rw [c1] at hck
          by_cases o2:(fdv l k).stp < 0
          · have he:facE l = 2:=by rw [HE.out,← HS.out,fuE_stp c0 c1 (by omega)]
            have HE2:=Lib.hid he;clear he HS HE
            have HCK:=Lib.hid hck;clear hck
            go_wp2_with (first | (with_reducible refine ((HCK.out _ (ENV.out.below HB.out)).mono ?_);rintro e w' ⟨rfl,hb⟩;replace HG:=Lib.hid (HG.out.keep hb);clear g0 g1 g2 g3 g4 g5 gf0 gf1 gf2 gf3 gf4 gf5;replace HB:=Lib.hid (bch' HB.out hb);clear hb;obtain ⟨g0,g1,g2,g3,g4,g5,gf0,gf1,gf2,gf3,gf4,gf5⟩:=HG.out.c6))
            go_ret
            exact ⟨by rw [HE2.out];rfl,HB.out⟩
          by_cases o3:10000000 < (fdv l k).stp
          · have he:facE l = 2:=by rw [HE.out,← HS.out,fuE_stp c0 c1 (by omega)]
            have HE2:=Lib.hid he;clear he HS HE
            have HCK:=Lib.hid hck;clear hck
            go_wp2_with (first | (with_reducible refine ((HCK.out _ (ENV.out.below HB.out)).mono ?_);rintro e w' ⟨rfl,hb⟩;replace HG:=Lib.hid (HG.out.keep hb);clear g0 g1 g2 g3 g4 g5 gf0 gf1 gf2 gf3 gf4 gf5;replace HB:=Lib.hid (bch' HB.out hb);clear hb;obtain ⟨g0,g1,g2,g3,g4,g5,gf0,gf1,gf2,gf3,gf4,gf5⟩:=HG.out.c6))
            go_ret
            exact ⟨by rw [HE2.out];rfl,HB.out⟩
          have c2:¬ ((fdv l k).stp < 0 ∨ 10000000 < (fdv l k).stp):=by omega
          by_cases c3:(fdv l k).su ≤ lastF l k
          · have he:facE l = 9:=by rw [HE.out,← HS.out,fuE_ord c0 c1 c2 c3]
            have HE2:=Lib.hid he;clear he HS HE
            have HCK:=Lib.hid hck;clear hck
            go_wp2_with (first | (with_reducible refine ((HCK.out _ (ENV.out.below HB.out)).mono ?_);rintro e w' ⟨rfl,hb⟩;replace HG:=Lib.hid (HG.out.keep hb);clear g0 g1 g2 g3 g4 g5 gf0 gf1 gf2 gf3 gf4 gf5;replace HB:=Lib.hid (bch' HB.out hb);clear hb;obtain ⟨g0,g1,g2,g3,g4,g5,gf0,gf1,gf2,gf3,gf4,gf5⟩:=HG.out.c6))
            go_ret
            exact ⟨by rw [HE2.out];rfl,HB.out⟩
          · have HF:Hid (fuE l r (k + 1) = fuE l l.length 0):=by show _ = _;rw [← HS.out,fuE_go c0 c1 c2 c3]
            clear HS HE c1 c0 c2
            have HCK:=Lib.hid hck;clear hck
            go_wp2_with (first | (with_reducible refine ((HCK.out _ (ENV.out.below HB.out)).mono ?_);rintro e w' ⟨rfl,hb⟩;replace HG:=Lib.hid (HG.out.keep hb);clear g0 g1 g2 g3 g4 g5 gf0 gf1 gf2 gf3 gf4 gf5;replace HB:=Lib.hid (bch' HB.out hb);clear hb;obtain ⟨g0,g1,g2,g3,g4,g5,gf0,gf1,gf2,gf3,gf4,gf5⟩:=HG.out.c6))
            go_roundw
            case rel => exact ⟨k + 1,r,by first | rfl | simp,rfl,Lib.hid (by have:=hkr.out;omega),HB,HF⟩
            case measure => first | (simp [intOf];done) | (simp [intOf];omega)
        · have he:facE l = fgE (fdv l k):=by rw [HE.out,← HS.out,fuE_gl c0 c1]
          have HE2:=Lib.hid he;clear he HS HE c0
          have hne:((fgE (fdv l k):Int) != 0) = true:=by simpa using c1
          generalize fgE (fdv l k) = m at *
          have HCK:=Lib.hid hck;clear hck
          go_wp2_with (first | (with_reducible refine ((HCK.out _ (ENV.out.below HB.out)).mono ?_);rintro e w' ⟨rfl,hb⟩;replace HG:=Lib.hid (HG.out.keep hb);clear g0 g1 g2 g3 g4 g5 gf0 gf1 gf2 gf3 gf4 gf5;replace HB:=Lib.hid (bch' HB.out hb);clear hb;obtain ⟨g0,g1,g2,g3,g4,g5,gf0,gf1,gf2,gf3,gf4,gf5⟩:=HG.out.c6))
          go_ret
          exact ⟨by rw [HE2.out];rfl,HB.out⟩
end Go.Proofs.YtmjkenlifgmeeaaGreatDoor
