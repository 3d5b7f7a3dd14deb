/-
  
-/
import Derived.Test.YtmjkenlifgmeeaaGreatDoorQzHa
import Derived.Deep.RegionHeld3
set_option linter.unusedVariables false
set_option linter.unusedSimpArgs false
set_option maxRecDepth 100000
set_option maxHeartbeats 4000000
namespace Lum
open Go Go.RowKit Go.Shelf
open Go.Lib (decDigits itoa)
def EntsAt (W:World) (v:Value) (l:List Ent):Prop:=∃ p c,v = .slice p l.length c ∧ RowX encEn 4 W p l
theorem EntsAt.kept {W W':World} {v:Value} {l:List Ent} (h:EntsAt W v l) (hb:Below W.heap.size W W'):EntsAt W' v l:=by
  obtain ⟨p,c,rfl,h⟩:=h
  exact ⟨p,c,rfl,h.kept hb⟩
def HndsAt (W:World) (v:Value) (l:List Hnd):Prop:=∃ p c,v = .slice p l.length c ∧ RowX encHd 7 W p l
theorem HndsAt.kept {W W':World} {v:Value} {l:List Hnd} (h:HndsAt W v l) (hb:Below W.heap.size W W'):HndsAt W' v l:=by
  obtain ⟨p,c,rfl,h⟩:=h
  exact ⟨p,c,rfl,h.kept hb⟩
theorem entE_rng {x:Ent} (h:entE x = 0):(1 ≤ x.ch ∧ x.ch ≤ 999) ∧ 0 ≤ x.at_ ∧ x.at_ < 15:=by
  by_cases h1:paE x.ch x.at_ = 0
  · exact paE_zero h1
  · rw [entE_pa h1] at h;exact absurd h h1
end Lum
namespace Go.Proofs.YtmjkenlifgmeeaaGreatDoor
open Go.RowKit Go.Shelf Lum
open Go.Lib (decDigits itoa)
attribute [local go_sem] bs_get bs_extract_end bs_extract_from bs_extract bs_append
theorem own_pown (ch a : Int) (fr : Txt) (pa lv st ti : Int) (w : World) :
    Calls Tryz.prog 34 #[.agg #[.int .i64 ch,.int .i64 a,.string ⟨fr.toArray⟩,.int .i64 pa,.int .i64 lv,.int .i64 st,.int .i64 ti]] w fun e w' => e = .returned (.agg #[.int .i64 ch,.int .i64 a]) ∧ Below w.heap.size w w':=by
  have hal:=((Below.refl w.heap.size w).alloc (Nat.le_refl _) (.cells #[.int .i64 ch,.int .i64 a,.string ⟨fr.toArray⟩,.int .i64 pa,.int .i64 lv,.int .i64 st,.int .i64 ti] 77)).alloc (by simp) (.cells #[.int .i64 0,.int .i64 0] 34)
  have HB:=Lib.hid hal;clear hal
  have HX:=Lib.hid ((Blk.new w 77 #[.int .i64 ch,.int .i64 a,.string ⟨fr.toArray⟩,.int .i64 pa,.int .i64 lv,.int .i64 st,.int .i64 ti]).alloc (.cells #[.int .i64 0,.int .i64 0] 34))
  have hA:=Blk.new (w.alloc (.cells #[.int .i64 ch,.int .i64 a,.string ⟨fr.toArray⟩,.int .i64 pa,.int .i64 lv,.int .i64 st,.int .i64 ti] 77)) 34 #[.int .i64 0,.int .i64 0]
  rw [World.size_alloc] at hA
  have HR:=Lib.hid hA;clear hA
  obtain ⟨x0,x1,x2,x3,x4,x5,x6,xf0,xf1,xf2,xf3,xf4,xf5,xf6⟩:=HX.out.c7
  obtain ⟨r0,r1,rf0,rf1⟩:=HR.out.c2
  go_enter Tryz.func34,Tryz.ntmps34
  go_wp2_with fail
  refine bodyPost_ret_by (v:=.agg #[.int .i64 ch,.int .i64 a]) (by simp [results,Tryz.f34,go_sem,r0,r1,rf0,rf1]) rfl ⟨rfl,?_⟩
  first | exact ((HB.out.setCell (p:=⟨w.heap.size + 1,0,none⟩) (by simp) _).setCell (p:=⟨w.heap.size + 1,1,none⟩) (by simp) _) | exact ((Below.refl _ _).alloc (Nat.le_refl _) _).alloc (by simp) _
theorem own_pfader (ch a : Int) (fr : Txt) (pa lv st ti tz : Int) (w : World) :
    Calls Tryz.prog 107 #[.agg #[.int .i64 ch,.int .i64 a,.string ⟨fr.toArray⟩,.int .i64 pa,.int .i64 lv,.int .i64 st,.int .i64 ti],.int .i64 tz] w fun e w' => e = .returned (.agg #[.string ⟨fr.toArray⟩,.int .i64 tz,.int .i64 st,.int .i64 ti]) ∧ Below w.heap.size w w':=by
  have hal:=((Below.refl w.heap.size w).alloc (Nat.le_refl _) (.cells #[.int .i64 ch,.int .i64 a,.string ⟨fr.toArray⟩,.int .i64 pa,.int .i64 lv,.int .i64 st,.int .i64 ti] 77)).alloc (by simp) (.cells #[.string ⟨#[]⟩,.int .i64 0,.int .i64 0,.int .i64 0] 93)
  have HB:=Lib.hid hal;clear hal
  have HX:=Lib.hid ((Blk.new w 77 #[.int .i64 ch,.int .i64 a,.string ⟨fr.toArray⟩,.int .i64 pa,.int .i64 lv,.int .i64 st,.int .i64 ti]).alloc (.cells #[.string ⟨#[]⟩,.int .i64 0,.int .i64 0,.int .i64 0] 93))
  have hA:=Blk.new (w.alloc (.cells #[.int .i64 ch,.int .i64 a,.string ⟨fr.toArray⟩,.int .i64 pa,.int .i64 lv,.int .i64 st,.int .i64 ti] 77)) 93 #[.string ⟨#[]⟩,.int .i64 0,.int .i64 0,.int .i64 0]
  rw [World.size_alloc] at hA
  have HR:=Lib.hid hA;clear hA
  obtain ⟨x0,x1,x2,x3,x4,x5,x6,xf0,xf1,xf2,xf3,xf4,xf5,xf6⟩:=HX.out.c7
  obtain ⟨r0,r1,r2,r3,rf0,rf1,rf2,rf3⟩:=HR.out.c4
  go_enter Tryz.func107,Tryz.ntmps107
  go_wp2_with fail
  refine bodyPost_ret_by (v:=.agg #[.string ⟨fr.toArray⟩,.int .i64 tz,.int .i64 st,.int .i64 ti]) (by simp [results,Tryz.f107,go_sem,r0,r1,r2,r3,rf0,rf1,rf2,rf3]) rfl ⟨rfl,?_⟩
  first | exact ((((HB.out.setCell (p:=⟨w.heap.size + 1,0,none⟩) (by simp) _).setCell (p:=⟨w.heap.size + 1,1,none⟩) (by simp) _).setCell (p:=⟨w.heap.size + 1,2,none⟩) (by simp) _).setCell (p:=⟨w.heap.size + 1,3,none⟩) (by simp) _) | exact ((Below.refl _ _).alloc (Nat.le_refl _) _).alloc (by simp) _
theorem own_plist (l : List Ent) (v : Value) (w : World) (hv : EntsAt w v l) :
    Calls Tryz.prog 56 #[v,.int .i64 4096,.func (.func 53) #[] #[],.func (.func 57) #[] #[]] w fun e w' => e = .returned (.int .i64 (ordP 4096 entE Ent.ky l)) ∧ Below w.heap.size w w':=by
  obtain ⟨p,c,rfl,hR⟩:=hv
  have hv2:=Lib.hid hR;clear hR
  have HB:=Lib.hid (Below.refl w.heap.size w)
  by_cases hm:4096 < l.length
  · have hm2:(4096:Int) < (l.length:Int):=by omega
    have HE:Hid (ordP 4096 entE Ent.ky l = 5):=Lib.hid (ordP_many hm)
    go_enter Tryz.func56,Tryz.ntmps56
    go_wp2_with fail
    go_ret
    exact ⟨by first | (rw [HE.out];done) | (rw [HE.out];rfl),HB.out⟩
  have hm2:¬ (4096:Int) < (l.length:Int):=by omega
  have HS0:Hid (ordQ entE Ent.ky (l.drop 0) (prevP Ent.ky l 0) = ordP 4096 entE Ent.ky l):=Lib.hid (ordP_few hm).symm
  go_enter Tryz.func56,Tryz.ntmps56
  go_wp2_with fail
  go_loopw [18] (fun s wr => ∃ i r:Nat,s = .int .i64 (i:Int) ∧ Hid (i + r = l.length) ∧ Hid (∀ j (hj:j < l.length),j < i → entE (l[j]'hj) = 0) ∧ Hid (Below w.heap.size w wr) ∧ Hid (ordQ entE Ent.ky (l.drop i) (prevP Ent.ky l i) = ordP 4096 entE Ent.ky l)) (fun s _ => l.length - (intOf s).toNat)
  case atStart => exact ⟨0,l.length,rfl,Lib.hid (by omega),Lib.hid (fun j hj h => absurd h (Nat.not_lt_zero _)),HB,HS0⟩
  case round =>
    clear HB
    obtain ⟨i,r,rfl,hkr,HPZ,HB,HS⟩:=hrel
    cases r with
    | zero =>
      have hlt:¬ (i:Int) < (l.length:Int):=by have:=hkr.out;omega
      have HE:Hid (ordP 4096 entE Ent.ky l = 0):=Lib.hid (by rw [← HS.out,show i = l.length from hkr.out];exact ordQ_end)
      go_wp2_with fail
      go_ret
      exact ⟨by first | (rw [HE.out];done) | (rw [HE.out];rfl),HB.out⟩
    | succ r =>
      have hkl:i < l.length:=by have:=hkr.out;omega
      have hlt:(i:Int) < (l.length:Int):=by omega
      have hi0:(0:Int) ≤ (i:Int):=by omega
      have hlo:i * 4 < 9223372036854775807:=by omega
      have hun:IntKind.i64.wrap ((i:Int) + 1) = (i:Int) + 1:=IntWalk.i64_in _ (by omega)
      obtain ⟨b,o,rfl,hb,hC⟩:=hv2.out (fun h => by subst h;exact absurd hkl (Nat.not_lt_zero _))
      obtain ⟨x,hx⟩:∃ x,x = l[i]'hkl:=⟨_,rfl⟩
      have hcell:=hC i hkl
      rw [← hx] at hcell
      have HCX:=Lib.hid hcell;have HBb:=Lib.hid hb;have HX:=Lib.hid hx
      clear hcell hx hb
      have x0:wr.cell? ⟨b,o + i * 4,none⟩ = some (.int .i64 (x.ch)):=(HB.out.cell (p:=⟨b,o + i * 4 + 0,none⟩) HBb.out).trans (HCX.out 0 _ rfl)
      have x1:wr.cell? ⟨b,o + i * 4 + 1,none⟩ = some (.int .i64 (x.at_)):=(HB.out.cell (p:=⟨b,o + i * 4 + 1,none⟩) HBb.out).trans (HCX.out 1 _ rfl)
      have x2:wr.cell? ⟨b,o + i * 4 + 2,none⟩ = some (.int .i64 (x.pa)):=(HB.out.cell (p:=⟨b,o + i * 4 + 2,none⟩) HBb.out).trans (HCX.out 2 _ rfl)
      have x3:wr.cell? ⟨b,o + i * 4 + 3,none⟩ = some (.int .i64 (x.lv)):=(HB.out.cell (p:=⟨b,o + i * 4 + 3,none⟩) HBb.out).trans (HCX.out 3 _ rfl)
      have hbr:b < wr.heap.size:=by have h1:=HB.out.size;have h2:=HBb.out;omega
      by_cases hz0:entE x = 0
      · have HXZ:Hid (entE x = 0):=Lib.hid (by rw [show entE x = entE x from rfl];exact hz0)
        have hc0:=fun W => own_pent x.ch x.at_ x.pa x.lv W
        rw [hz0] at hc0
        clear hz0
        have HC0:=Lib.hid hc0;clear hc0
        by_cases hi0z:i = 0
        · subst hi0z
          have HS2:Hid (ordQ entE Ent.ky (l.drop (0 + 1)) (prevP Ent.ky l (0 + 1)) = ordP 4096 entE Ent.ky l):=Lib.hid (by rw [← HS.out];exact (ordQ_first hkl (by rw [← HX.out];exact HXZ.out)).symm)
          have hd:decide ((0:Int) < ((0:Nat):Int)) = false:=decide_eq_false (by omega)
          simp only [Nat.zero_mul,Nat.add_zero] at x0 x1 x2 x3
          have HG:=Lib.hid (Blk.new wr 38 #[.int .i64 (x.ch),.int .i64 (x.at_),.int .i64 (x.pa),.int .i64 (x.lv)])
          replace HB:=Lib.hid (HB.out.alloc HB.out.size (.cells #[.int .i64 (x.ch),.int .i64 (x.at_),.int .i64 (x.pa),.int .i64 (x.lv)] 38))
          obtain ⟨g0,g1,g2,g3,gf0,gf1,gf2,gf3⟩:=HG.out.c4
          go_wp2_with (first | (with_reducible refine ((HC0.out _).mono ?_);rintro e w' ⟨rfl,hb⟩;replace HG:=Lib.hid (HG.out.keep hb);clear g0 g1 g2 g3 gf0 gf1 gf2 gf3;replace HB:=Lib.hid (bch' HB.out hb);clear hb;obtain ⟨g0,g1,g2,g3,gf0,gf1,gf2,gf3⟩:=HG.out.c4))
          clear x0 x1 x2 x3 hbr
          have f0:=fun p:BelowOf _ => (HG.out.keep p.h).c4.1
          have f1:=fun p:BelowOf _ => (HG.out.keep p.h).c4.2.1
          have f2:=fun p:BelowOf _ => (HG.out.keep p.h).c4.2.2.1
          have f3:=fun p:BelowOf _ => (HG.out.keep p.h).c4.2.2.2.1
          refine wp_region_WQ (by kernel_rfl) (by kernel_rfl) ?_
          repeat (refine WQ.step (fun K hK => ?_);go_simp;first | (refine hK.out _ ?_;clear hK K) | (apply Exists.intro;refine ⟨fun _ => ?_,hK.out _ ?_⟩;(first | rfl);clear hK K))
          refine WQ.nil ?_
          intro _ hw'
          obtain ⟨⟨wq,hbq⟩,hw2⟩:=hw'
          subst hw2
          replace HB:=Lib.hid (bch' HB.out hbq)
          clear f0 f1 f2 f3
          go_wp2_with fail
          go_roundw
          case rel => exact ⟨0 + 1,r,by first | rfl | simp,Lib.hid (by have:=hkr.out;omega),Lib.hid (fun j hj h => by by_cases e:j = 0;(subst e;rw [← HX.out];exact HXZ.out);exact HPZ.out j hj (by omega)),HB,HS2⟩
          case measure => first | (simp [intOf];done) | (simp [intOf];omega)
        · have hi1:i - 1 < l.length:=by omega
          have hgi:(0:Int) < (i:Int):=by omega
          have hd:decide (0 < i) = true:=decide_eq_true (by omega)
          have hm1:IntKind.i64.wrap ((i:Int) - 1) = ((i - 1:Nat):Int):=by rw [IntWalk.i64_in _ (by omega)];omega
          have hlo1:(i - 1) * 4 < 9223372036854775807:=by omega
          obtain ⟨y,hy⟩:∃ y,y = l[i - 1]'hi1:=⟨_,rfl⟩
          have hcy:=hC (i - 1) hi1
          rw [← hy] at hcy
          have HCY:=Lib.hid hcy;have HY:=Lib.hid hy;clear hcy hy hC
          have hyz:entE y = 0:=by rw [HY.out];exact HPZ.out (i - 1) hi1 (by omega)
          have hrx:=entE_rng HXZ.out
          have hry:=entE_rng hyz
          have hd0:=fun W => own_pcme y.ch y.at_ y.pa y.lv x.ch x.at_ x.pa x.lv W hry.1 hry.2 hrx.1 hrx.2
          clear hrx hry
          clear hyz
          by_cases hle:ltP y.ky x.ky = true
          · have HS2:Hid (ordQ entE Ent.ky (l.drop (i + 1)) (prevP Ent.ky l (i + 1)) = ordP 4096 entE Ent.ky l):=Lib.hid (by rw [← HS.out];obtain ⟨i,rfl⟩:∃ m,i = m + 1:=⟨i - 1,by omega⟩;rw [HX.out,HY.out] at hle;exact (ordQ_next hkl (by rw [← HX.out];exact HXZ.out) hle).symm)
            have hge:decide ((0:Int) ≤ cpS y.ch y.at_ x.ch x.at_) = false:=decide_eq_false (fun h => by have:=cpS_ge.1 h;rw [show ltP (y.ch,y.at_) (x.ch,x.at_) = true from hle] at this;cases this)
            clear hle
            generalize cpS y.ch y.at_ x.ch x.at_ = z at *
            have HD:=Lib.hid hd0;clear hd0
            have HG:=Lib.hid (Blk.new wr 38 #[.int .i64 (x.ch),.int .i64 (x.at_),.int .i64 (x.pa),.int .i64 (x.lv)])
            replace HB:=Lib.hid (HB.out.alloc HB.out.size (.cells #[.int .i64 (x.ch),.int .i64 (x.at_),.int .i64 (x.pa),.int .i64 (x.lv)] 38))
            obtain ⟨g0,g1,g2,g3,gf0,gf1,gf2,gf3⟩:=HG.out.c4
            go_wp2_with (first | (with_reducible refine ((HC0.out _).mono ?_);rintro e w' ⟨rfl,hb⟩;replace HG:=Lib.hid (HG.out.keep hb);clear g0 g1 g2 g3 gf0 gf1 gf2 gf3;replace HB:=Lib.hid (bch' HB.out hb);clear hb;obtain ⟨g0,g1,g2,g3,gf0,gf1,gf2,gf3⟩:=HG.out.c4))
            clear x0 x1 x2 x3 hbr
            have f0:=fun p:BelowOf _ => (HG.out.keep p.h).c4.1
            have f1:=fun p:BelowOf _ => (HG.out.keep p.h).c4.2.1
            have f2:=fun p:BelowOf _ => (HG.out.keep p.h).c4.2.2.1
            have f3:=fun p:BelowOf _ => (HG.out.keep p.h).c4.2.2.2.1
            have e0:=fun p:BelowOf _ => ((bch' HB.out p.h).cell (p:=⟨b,o + (i - 1) * 4,none⟩) HBb.out).trans (HCY.out 0 _ rfl)
            have e1:=fun p:BelowOf _ => ((bch' HB.out p.h).cell (p:=⟨b,o + (i - 1) * 4 + 1,none⟩) HBb.out).trans (HCY.out 1 _ rfl)
            have e2:=fun p:BelowOf _ => ((bch' HB.out p.h).cell (p:=⟨b,o + (i - 1) * 4 + 2,none⟩) HBb.out).trans (HCY.out 2 _ rfl)
            have e3:=fun p:BelowOf _ => ((bch' HB.out p.h).cell (p:=⟨b,o + (i - 1) * 4 + 3,none⟩) HBb.out).trans (HCY.out 3 _ rfl)
            have zz:=fun p:BelowOf _ => Nat.lt_of_lt_of_le HBb.out (bch' HB.out p.h).size
            refine wp_region_WQ (by kernel_rfl) (by kernel_rfl) ?_
            repeat (refine WQ.step (fun K hK => ?_);go_simp;first | (refine hK.out _ ?_;clear hK K) | (apply Exists.intro;refine ⟨fun _ => ?_,hK.out _ ?_⟩;(first | rfl | (with_reducible exact calls_below_of _ (HD.out _)));clear hK K))
            refine WQ.nil ?_
            intro _ hw'
            obtain ⟨⟨wq,hbq⟩,hw2⟩:=hw'
            subst hw2
            replace HB:=Lib.hid (bch' HB.out hbq)
            clear f0 f1 f2 f3 e0 e1 e2 e3 zz
            go_wp2_with fail
            go_roundw
            case rel => exact ⟨i + 1,r,by first | rfl | simp,Lib.hid (by have:=hkr.out;omega),Lib.hid (fun j hj h => by by_cases e:j = i;(subst e;rw [← HX.out];exact HXZ.out);exact HPZ.out j hj (by omega)),HB,HS2⟩
            case measure => first | (simp [intOf];done) | (simp [intOf];omega)
          · have hle:ltP y.ky x.ky = false:=by simpa using hle
            have HE:Hid (ordP 4096 entE Ent.ky l = 9):=Lib.hid (by rw [← HS.out];obtain ⟨i,rfl⟩:∃ m,i = m + 1:=⟨i - 1,by omega⟩;rw [HX.out,HY.out] at hle;exact ordQ_low hkl (by rw [← HX.out];exact HXZ.out) hle)
            have hge:decide ((0:Int) ≤ cpS y.ch y.at_ x.ch x.at_) = true:=decide_eq_true (cpS_ge.2 hle)
            clear hle
            generalize cpS y.ch y.at_ x.ch x.at_ = z at *
            have HD:=Lib.hid hd0;clear hd0
            have HG:=Lib.hid (Blk.new wr 38 #[.int .i64 (x.ch),.int .i64 (x.at_),.int .i64 (x.pa),.int .i64 (x.lv)])
            replace HB:=Lib.hid (HB.out.alloc HB.out.size (.cells #[.int .i64 (x.ch),.int .i64 (x.at_),.int .i64 (x.pa),.int .i64 (x.lv)] 38))
            obtain ⟨g0,g1,g2,g3,gf0,gf1,gf2,gf3⟩:=HG.out.c4
            go_wp2_with (first | (with_reducible refine ((HC0.out _).mono ?_);rintro e w' ⟨rfl,hb⟩;replace HG:=Lib.hid (HG.out.keep hb);clear g0 g1 g2 g3 gf0 gf1 gf2 gf3;replace HB:=Lib.hid (bch' HB.out hb);clear hb;obtain ⟨g0,g1,g2,g3,gf0,gf1,gf2,gf3⟩:=HG.out.c4))
            clear x0 x1 x2 x3 hbr
            have f0:=fun p:BelowOf _ => (HG.out.keep p.h).c4.1
            have f1:=fun p:BelowOf _ => (HG.out.keep p.h).c4.2.1
            have f2:=fun p:BelowOf _ => (HG.out.keep p.h).c4.2.2.1
            have f3:=fun p:BelowOf _ => (HG.out.keep p.h).c4.2.2.2.1
            have e0:=fun p:BelowOf _ => ((bch' HB.out p.h).cell (p:=⟨b,o + (i - 1) * 4,none⟩) HBb.out).trans (HCY.out 0 _ rfl)
            have e1:=fun p:BelowOf _ => ((bch' HB.out p.h).cell (p:=⟨b,o + (i - 1) * 4 + 1,none⟩) HBb.out).trans (HCY.out 1 _ rfl)
            have e2:=fun p:BelowOf _ => ((bch' HB.out p.h).cell (p:=⟨b,o + (i - 1) * 4 + 2,none⟩) HBb.out).trans (HCY.out 2 _ rfl)
            have e3:=fun p:BelowOf _ => ((bch' HB.out p.h).cell (p:=⟨b,o + (i - 1) * 4 + 3,none⟩) HBb.out).trans (HCY.out 3 _ rfl)
            have zz:=fun p:BelowOf _ => Nat.lt_of_lt_of_le HBb.out (bch' HB.out p.h).size
            refine wp_region_WQ (by kernel_rfl) (by kernel_rfl) ?_
            repeat (refine WQ.step (fun K hK => ?_);go_simp;first | (refine hK.out _ ?_;clear hK K) | (apply Exists.intro;refine ⟨fun _ => ?_,hK.out _ ?_⟩;(first | rfl | (with_reducible exact calls_below_of _ (HD.out _)));clear hK K))
            refine WQ.nil ?_
            intro _ hw'
            obtain ⟨⟨wq,hbq⟩,hw2⟩:=hw'
            subst hw2
            replace HB:=Lib.hid (bch' HB.out hbq)
            clear f0 f1 f2 f3 e0 e1 e2 e3 zz
            go_wp2_with fail
            go_ret
            exact ⟨by first | (rw [HE.out];done) | (rw [HE.out];rfl),HB.out⟩
      · have HE:Hid (ordP 4096 entE Ent.ky l = entE x):=Lib.hid (by rw [← HS.out,ordQ_err hkl (by rw [← HX.out,show entE x = entE x from rfl];exact hz0),← HX.out,show entE x = entE x from rfl])
        have hne:((entE x:Int) != 0) = true:=by simpa using hz0
        have hc0:=fun W => own_pent x.ch x.at_ x.pa x.lv W
        clear hz0
        generalize entE x = m at *
        have HC0:=Lib.hid hc0;clear hc0
        have HG:=Lib.hid (Blk.new wr 38 #[.int .i64 (x.ch),.int .i64 (x.at_),.int .i64 (x.pa),.int .i64 (x.lv)])
        replace HB:=Lib.hid (HB.out.alloc HB.out.size (.cells #[.int .i64 (x.ch),.int .i64 (x.at_),.int .i64 (x.pa),.int .i64 (x.lv)] 38))
        obtain ⟨g0,g1,g2,g3,gf0,gf1,gf2,gf3⟩:=HG.out.c4
        go_wp2_with (first | (with_reducible refine ((HC0.out _).mono ?_);rintro e w' ⟨rfl,hb⟩;replace HG:=Lib.hid (HG.out.keep hb);clear g0 g1 g2 g3 gf0 gf1 gf2 gf3;replace HB:=Lib.hid (bch' HB.out hb);clear hb;obtain ⟨g0,g1,g2,g3,gf0,gf1,gf2,gf3⟩:=HG.out.c4))
        go_ret
        exact ⟨by first | (rw [HE.out];done) | (rw [HE.out];rfl),HB.out⟩
theorem own_pents (l : List Ent) (v : Value) (w : World) (hv : EntsAt w v l) :
    Calls Tryz.prog 28 #[v] w fun e w' => e = .returned (.int .i64 (ordP 4096 entE Ent.ky l)) ∧ Below w.heap.size w w':=by
  have hl:=own_plist l v w hv
  generalize ordP 4096 entE Ent.ky l = m at *
  have HL:=Lib.hid hl;clear hl
  have HB:=Lib.hid (Below.refl w.heap.size w)
  go_enter Tryz.func28,Tryz.ntmps28
  go_wp2_with (with_reducible refine (HL.out.mono ?_);rintro e w' ⟨rfl,hb⟩;replace HB:=Lib.hid hb;clear hb)
  go_ret
  exact ⟨rfl,HB.out⟩
end Go.Proofs.YtmjkenlifgmeeaaGreatDoor
set_option maxRecDepth 100000
set_option maxHeartbeats 4000000
namespace Go.Proofs.YtmjkenlifgmeeaaGreatDoor
open Go.RowKit Go.Shelf Lum
open Go.Lib (decDigits itoa)
attribute [local go_sem] bs_get bs_extract_end bs_extract_from bs_extract bs_append
theorem own_pcompare (x y z u : Int) (w : World) :
    Calls Tryz.prog 52 #[.agg #[.int .i64 x,.int .i64 y],.agg #[.int .i64 z,.int .i64 u]] w fun e w' => e = .returned (.int .i64 (cpP (x,y) (z,u))) ∧ Below w.heap.size w w':=by
  have hal:=((Below.refl w.heap.size w).alloc (Nat.le_refl _) (.cells #[.int .i64 x,.int .i64 y] 34)).alloc (by simp) (.cells #[.int .i64 z,.int .i64 u] 34)
  have HB:=Lib.hid hal;clear hal
  have HX:=Lib.hid ((Blk.new w 34 #[.int .i64 x,.int .i64 y]).alloc (.cells #[.int .i64 z,.int .i64 u] 34))
  have hA:=Blk.new (w.alloc (.cells #[.int .i64 x,.int .i64 y] 34)) 34 #[.int .i64 z,.int .i64 u]
  rw [World.size_alloc] at hA
  have HZ:=Lib.hid hA;clear hA
  go_enter Tryz.func52,Tryz.ntmps52
  go_upto_region 1 with fail
  obtain ⟨W2,hW2⟩:∃ X,X = (w.alloc (.cells #[.int .i64 x,.int .i64 y] 34)).alloc (.cells #[.int .i64 z,.int .i64 u] 34):=⟨_,rfl⟩
  rw [← hW2] at HB HX HZ ⊢
  clear hW2
  obtain ⟨p0,p1,pf0,pf1⟩:=HX.out.c2
  obtain ⟨q0,q1,qf0,qf1⟩:=HZ.out.c2
  have hl2:w.heap.size + 2 ≤ W2.heap.size:=by have:=HZ.out.lt;omega
  obtain ⟨SS,hSS⟩:∃ SS:World → Prop,∀ W',SS W' ↔ Below W2.heap.size W2 W':=⟨fun W' => Below W2.heap.size W2 W',fun _ => Iff.rfl⟩
  have HBO:Hid (∀ W',SS W' → (W'.cell? ⟨w.heap.size,0,none⟩ = some (.int .i64 x) ∧ W'.cell? ⟨w.heap.size,1,none⟩ = some (.int .i64 y) ∧ W'.cell? ⟨w.heap.size + 1,0,none⟩ = some (.int .i64 z) ∧ W'.cell? ⟨w.heap.size + 1,1,none⟩ = some (.int .i64 u) ∧ SS W')):=Lib.hid fun W' hs => by have h1:=(hSS W').1 hs;exact ⟨(h1.cell (p:=⟨w.heap.size,0,none⟩) (by show w.heap.size < _;omega)).trans p0,(h1.cell (p:=⟨w.heap.size,1,none⟩) (by show w.heap.size < _;omega)).trans p1,(h1.cell (p:=⟨w.heap.size + 1,0,none⟩) (by show w.heap.size + 1 < _;omega)).trans q0,(h1.cell (p:=⟨w.heap.size + 1,1,none⟩) (by show w.heap.size + 1 < _;omega)).trans q1,hs⟩
  have HS1:Hid (SS W2):=Lib.hid ((hSS _).2 (Below.refl _ _))
  have HKA:Hid (∀ A c,SS A → SS (A.alloc c)):=Lib.hid fun A c hs => (hSS _).2 (bch' ((hSS A).1 hs) ((Below.refl _ _).alloc (Nat.le_refl _) _))
  have HKD:Hid (∀ A,SS A → SS A.drew):=Lib.hid fun A hs => (hSS _).2 (((hSS A).1 hs).drew)
  have HFI:Hid (∀ A,SS A → Below w.heap.size w A):=Lib.hid fun A hs => bch' HB.out ((hSS A).1 hs)
  have hc1:=fun W => cmp_cmp x z W
  have hc2:=fun W => cmp_cmp y u W
  have hor:=fun W:World => cmp_or (sgI x z) (sgI y u) W.heap.size 2 (W.alloc (.cells #[.int .i64 (sgI x z),.int .i64 (sgI y u)] 3)) (by simp) (by simp)
  have hor2:=fun W:World => cmp_or (sgI x z) (sgI y u) W.heap.size 2 (W.alloc (.cells #[.int .i64 (sgI x z),.int .i64 (sgI y u)] 3)).drew (by simp) (by simp)
  have HE:Hid (cpP (x,y) (z,u) = if sgI x z ≠ 0 then sgI x z else sgI y u):=Lib.hid rfl
  generalize (if sgI x z ≠ 0 then sgI x z else sgI y u) = r at *
  generalize sgI x z = s1 at *
  generalize sgI y u = s2 at *
  have HC1:=Lib.hid hc1;have HC2:=Lib.hid hc2;have HOR:=Lib.hid hor;have HOR2:=Lib.hid hor2
  clear hc1 hc2 hor hor2 hSS hl2 HX HZ HB p0 p1 q0 q1 pf0 pf1 qf0 qf1
  go_region_held3 (fun W' => W'.cell? ⟨w.heap.size,0,none⟩ = some (.int .i64 x) ∧ W'.cell? ⟨w.heap.size,1,none⟩ = some (.int .i64 y) ∧ W'.cell? ⟨w.heap.size + 1,0,none⟩ = some (.int .i64 z) ∧ W'.cell? ⟨w.heap.size + 1,1,none⟩ = some (.int .i64 u) ∧ SS W') (with_reducible refine HBO.out _ ?_;((repeat (first | with_reducible refine HKA.out _ _ ?_ | with_reducible refine HKD.out _ ?_));with_reducible exact HS1.out)) (first | (go_at_call 109;first | (with_reducible refine (HC1.out _).mono ?_;rintro e w9 ⟨rfl,rfl⟩) | (with_reducible refine (HC2.out _).mono ?_;rintro e w9 ⟨rfl,rfl⟩)) | (go_at_call 108;first | (with_reducible refine (HOR.out _).mono ?_;rintro e w9 ⟨rfl,rfl⟩) | (with_reducible refine (HOR2.out _).mono ?_;rintro e w9 ⟨rfl,rfl⟩)))
  all_goals (go_wp2_with fail;go_ret)
  all_goals exact ⟨by first | (rw [HE.out];done) | (rw [HE.out];rfl),HFI.out _ (by ((repeat (first | with_reducible refine HKA.out _ _ ?_ | with_reducible refine HKD.out _ ?_));with_reducible exact HS1.out))⟩
theorem own_pright (ch a : Int) (fr : Txt) (pa lv st ti : Int) (w : World) (hx : fr.length ≤ 1000) (env : Env w) :
    Calls Tryz.prog 51 #[.agg #[.int .i64 ch,.int .i64 a,.string ⟨fr.toArray⟩,.int .i64 pa,.int .i64 lv,.int .i64 st,.int .i64 ti]] w fun e w' => e = .returned (.int .i64 (hndE ⟨ch,a,fr,pa,lv,st,ti⟩)) ∧ Below w.heap.size w w':=by
  have hlen:fr.length ≤ 1000:=hx
  have ENV:=Lib.hid env
  have HK:=Lib.hid (Blk.new w 77 #[.int .i64 ch,.int .i64 a,.string ⟨fr.toArray⟩,.int .i64 pa,.int .i64 lv,.int .i64 st,.int .i64 ti])
  have HB:=Lib.hid ((Below.refl w.heap.size w).alloc (Nat.le_refl _) (.cells #[.int .i64 ch,.int .i64 a,.string ⟨fr.toArray⟩,.int .i64 pa,.int .i64 lv,.int .i64 st,.int .i64 ti] 77))
  obtain ⟨k0,k1,k2,k3,k4,k5,k6,kf0,kf1,kf2,kf3,kf4,kf5,kf6⟩:=HK.out.c7
  obtain ⟨W0,hW0⟩:∃ X,X = w.alloc (.cells #[.int .i64 ch,.int .i64 a,.string ⟨fr.toArray⟩,.int .i64 pa,.int .i64 lv,.int .i64 st,.int .i64 ti] 77):=⟨_,rfl⟩
  rw [← hW0] at HK HB k0 k1 k2 k3 k4 k5 k6 kf0 kf1 kf2 kf3 kf4 kf5 kf6
  have hE4:∀ W:World,Calls Tryz.prog 28 #[.slice (some ⟨W.heap.size,0,none⟩) 1 1] (W.alloc (.cells #[.int .i64 ch,.int .i64 a,.int .i64 pa,.int .i64 lv] 38)) fun e w' => e = .returned (.int .i64 (entE ⟨ch,a,pa,lv⟩)) ∧ Below W.heap.size W w':=fun W => by
    have h:=own_pents [⟨ch,a,pa,lv⟩] (.slice (some ⟨W.heap.size,0,none⟩) 1 1) (W.alloc (.cells #[.int .i64 ch,.int .i64 a,.int .i64 pa,.int .i64 lv] 38)) ⟨_,_,rfl,fun _ => ⟨_,_,rfl,by simp,fun i hi j u hu => by
      have hi0:i = 0:=by simpa using hi
      subst hi0
      rw [show (0 + 0 * 4 + j) = j from by omega];exact cellN (cs:=encEn ⟨ch,a,pa,lv⟩) W 38 hu⟩⟩
    refine h.mono fun e w' ⟨h1,h2⟩ => ⟨?_,((Below.refl _ _).alloc (Nat.le_refl _) _).trans (h2.mono (by simp))⟩
    rw [h1,ordP_few (by simp)]
    by_cases hz:entE ⟨ch,a,pa,lv⟩ = 0
    · rw [hz,ordQ_first (l:=[(⟨ch,a,pa,lv⟩:Ent)]) (by simp) hz];rfl
    · rw [ordQ_err (l:=[(⟨ch,a,pa,lv⟩:Ent)]) (by simp) hz];rfl
  have HEN:=Lib.hid hE4;clear hE4
  have hfd:=fun W => own_pfader ch a fr pa lv st ti 0 W
  have hgc:=fun W (e:Env W) => own_gcheck fr 0 st ti W hlen e
  by_cases hz:entE ⟨ch,a,pa,lv⟩ = 0
  · have HE:Hid (hndE ⟨ch,a,fr,pa,lv,st,ti⟩ = glE fr 0 st ti):=Lib.hid (hndE_gl (x:=⟨ch,a,fr,pa,lv,st,ti⟩) hz)
    rw [hz] at HEN
    clear hz
    generalize glE fr 0 st ti = m at *
    have HFD:=Lib.hid hfd;clear hfd
    have HGC:=Lib.hid hgc;clear hgc
    clear hlen hx env
    go_enter Tryz.func51,Tryz.ntmps51
    go_upto_region 1 with fail
    rw [← hW0]
    clear hW0
    go_wp2_with (first | (with_reducible refine ((HEN.out _).mono ?_);rintro e w' ⟨rfl,hb⟩;replace HK:=Lib.hid (HK.out.keep hb);clear k0 k1 k2 k3 k4 k5 k6 kf0 kf1 kf2 kf3 kf4 kf5 kf6;replace HB:=Lib.hid (bch' HB.out hb);clear hb;obtain ⟨k0,k1,k2,k3,k4,k5,k6,kf0,kf1,kf2,kf3,kf4,kf5,kf6⟩:=HK.out.c7) | (with_reducible refine ((HFD.out _).mono ?_);rintro e w' ⟨rfl,hb⟩;replace HK:=Lib.hid (HK.out.keep hb);clear k0 k1 k2 k3 k4 k5 k6 kf0 kf1 kf2 kf3 kf4 kf5 kf6;replace HB:=Lib.hid (bch' HB.out hb);clear hb;obtain ⟨k0,k1,k2,k3,k4,k5,k6,kf0,kf1,kf2,kf3,kf4,kf5,kf6⟩:=HK.out.c7) | (with_reducible refine ((HGC.out _ (ENV.out.below HB.out)).mono ?_);rintro e w' ⟨rfl,hb⟩;replace HK:=Lib.hid (HK.out.keep hb);clear k0 k1 k2 k3 k4 k5 k6 kf0 kf1 kf2 kf3 kf4 kf5 kf6;replace HB:=Lib.hid (bch' HB.out hb);clear hb;obtain ⟨k0,k1,k2,k3,k4,k5,k6,kf0,kf1,kf2,kf3,kf4,kf5,kf6⟩:=HK.out.c7))
    go_ret
    exact ⟨by first | (rw [HE.out];done) | (rw [HE.out];rfl),HB.out⟩
  · have HE:Hid (hndE ⟨ch,a,fr,pa,lv,st,ti⟩ = entE ⟨ch,a,pa,lv⟩):=Lib.hid (hndE_en (x:=⟨ch,a,fr,pa,lv,st,ti⟩) hz)
    have hne:((entE ⟨ch,a,pa,lv⟩:Int) != 0) = true:=by simpa using hz
    clear hz
    generalize entE ⟨ch,a,pa,lv⟩ = m at *
    have HFD:=Lib.hid hfd;clear hfd
    have HGC:=Lib.hid hgc;clear hgc
    clear hlen hx env
    go_enter Tryz.func51,Tryz.ntmps51
    go_upto_region 1 with fail
    rw [← hW0]
    clear hW0
    go_wp2_with (first | (with_reducible refine ((HEN.out _).mono ?_);rintro e w' ⟨rfl,hb⟩;replace HK:=Lib.hid (HK.out.keep hb);clear k0 k1 k2 k3 k4 k5 k6 kf0 kf1 kf2 kf3 kf4 kf5 kf6;replace HB:=Lib.hid (bch' HB.out hb);clear hb;obtain ⟨k0,k1,k2,k3,k4,k5,k6,kf0,kf1,kf2,kf3,kf4,kf5,kf6⟩:=HK.out.c7))
    go_ret
    exact ⟨by first | (rw [HE.out];done) | (rw [HE.out];rfl),HB.out⟩
end Go.Proofs.YtmjkenlifgmeeaaGreatDoor
