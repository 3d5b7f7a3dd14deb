/-
  
-/
import Derived.Test.YtmjkenlifgmeeaaGreatDoorQzHd
set_option linter.unusedVariables false
set_option linter.unusedSimpArgs false
set_option maxRecDepth 100000
set_option maxHeartbeats 4000000
namespace Go.Proofs.YtmjkenlifgmeeaaGreatDoor
open Go.RowKit Go.Shelf Lum
open Go.Lib (decDigits itoa)
attribute [local go_sem] bs_get bs_extract_end bs_extract_from bs_extract bs_append
theorem own_pcheck (l : List Hnd) (v : Value) (w : World) (hv : HndsAt w v l) (hx : l.length ≤ 256 → ∀ x ∈ l, x.fr.length ≤ 1000) (env : Env w) :
    Calls Tryz.prog 27 #[v] w fun e w' => e = .returned (.int .i64 (ordP 256 hndE Hnd.ky l)) ∧ Below w.heap.size w w':=by
  obtain ⟨p,c,rfl,hR⟩:=hv
  have hv2:=Lib.hid hR;clear hR
  have HB:=Lib.hid (Below.refl w.heap.size w)
  have HXL:=Lib.hid hx;clear hx
  have ENV:=Lib.hid env;clear env
  by_cases hm:256 < l.length
  · have hm2:(256:Int) < (l.length:Int):=by omega
    have HE:Hid (ordP 256 hndE Hnd.ky l = 5):=Lib.hid (ordP_many hm)
    go_enter Tryz.func27,Tryz.ntmps27
    go_wp2_with fail
    go_ret
    exact ⟨by first | (rw [HE.out];done) | (rw [HE.out];rfl),HB.out⟩
  have hm2:¬ (256:Int) < (l.length:Int):=by omega
  have HS0:Hid (ordQ hndE Hnd.ky (l.drop 0) (prevP Hnd.ky l 0) = ordP 256 hndE Hnd.ky l):=Lib.hid (ordP_few hm).symm
  go_enter Tryz.func27,Tryz.ntmps27
  go_wp2_with fail
  go_loopw [11] (fun s wr => ∃ i r:Nat,s = .int .i64 (i:Int) ∧ Hid (i + r = l.length) ∧ Hid (∀ j (hj:j < l.length),j < i → hndE (l[j]'hj) = 0) ∧ Hid (Below w.heap.size w wr) ∧ Hid (ordQ hndE Hnd.ky (l.drop i) (prevP Hnd.ky l i) = ordP 256 hndE Hnd.ky l)) (fun s _ => l.length - (intOf s).toNat)
  case atStart => exact ⟨0,l.length,rfl,Lib.hid (by omega),Lib.hid (fun j hj h => absurd h (Nat.not_lt_zero _)),HB,HS0⟩
  case round =>
    clear HB
    obtain ⟨i,r,rfl,hkr,HPZ,HB,HS⟩:=hrel
    cases r with
    | zero =>
      have hlt:¬ (i:Int) < (l.length:Int):=by have:=hkr.out;omega
      have HE:Hid (ordP 256 hndE Hnd.ky l = 0):=Lib.hid (by rw [← HS.out,show i = l.length from hkr.out];exact ordQ_end)
      go_wp2_with fail
      go_ret
      exact ⟨by first | (rw [HE.out];done) | (rw [HE.out];rfl),HB.out⟩
    | succ r =>
      have hkl:i < l.length:=by have:=hkr.out;omega
      have hlt:(i:Int) < (l.length:Int):=by omega
      have hi0:(0:Int) ≤ (i:Int):=by omega
      have hlo:i * 7 < 9223372036854775807:=by omega
      have hun:IntKind.i64.wrap ((i:Int) + 1) = (i:Int) + 1:=IntWalk.i64_in _ (by omega)
      obtain ⟨b,o,rfl,hb,hC⟩:=hv2.out (fun h => by subst h;exact absurd hkl (Nat.not_lt_zero _))
      obtain ⟨x,hx⟩:∃ x,x = l[i]'hkl:=⟨_,rfl⟩
      have hcell:=hC i hkl
      rw [← hx] at hcell
      have HCX:=Lib.hid hcell;have HBb:=Lib.hid hb;have HX:=Lib.hid hx
      clear hcell hx hb
      have hxl:x.fr.length ≤ 1000:=HXL.out (by omega) x (by rw [HX.out];exact List.getElem_mem hkl)
      have x0:wr.cell? ⟨b,o + i * 7,none⟩ = some (.int .i64 (x.ch)):=(HB.out.cell (p:=⟨b,o + i * 7 + 0,none⟩) HBb.out).trans (HCX.out 0 _ rfl)
      have x1:wr.cell? ⟨b,o + i * 7 + 1,none⟩ = some (.int .i64 (x.at_)):=(HB.out.cell (p:=⟨b,o + i * 7 + 1,none⟩) HBb.out).trans (HCX.out 1 _ rfl)
      have x2:wr.cell? ⟨b,o + i * 7 + 2,none⟩ = some (.string ⟨x.fr.toArray⟩):=(HB.out.cell (p:=⟨b,o + i * 7 + 2,none⟩) HBb.out).trans (HCX.out 2 _ rfl)
      have x3:wr.cell? ⟨b,o + i * 7 + 3,none⟩ = some (.int .i64 (x.pa)):=(HB.out.cell (p:=⟨b,o + i * 7 + 3,none⟩) HBb.out).trans (HCX.out 3 _ rfl)
      have x4:wr.cell? ⟨b,o + i * 7 + 4,none⟩ = some (.int .i64 (x.lv)):=(HB.out.cell (p:=⟨b,o + i * 7 + 4,none⟩) HBb.out).trans (HCX.out 4 _ rfl)
      have x5:wr.cell? ⟨b,o + i * 7 + 5,none⟩ = some (.int .i64 (x.st)):=(HB.out.cell (p:=⟨b,o + i * 7 + 5,none⟩) HBb.out).trans (HCX.out 5 _ rfl)
      have x6:wr.cell? ⟨b,o + i * 7 + 6,none⟩ = some (.int .i64 (x.ti)):=(HB.out.cell (p:=⟨b,o + i * 7 + 6,none⟩) HBb.out).trans (HCX.out 6 _ rfl)
      have hbr:b < wr.heap.size:=by have h1:=HB.out.size;have h2:=HBb.out;omega
      by_cases hz0:hndE x = 0
      · have HXZ:Hid (hndE x = 0):=Lib.hid (by rw [show hndE x = hndE x from rfl];exact hz0)
        have hc0:=fun W (e:Env W) => own_pright x.ch x.at_ x.fr x.pa x.lv x.st x.ti W hxl e
        rw [hz0] at hc0
        clear hz0
        have HC0:=Lib.hid hc0;clear hc0
        by_cases hi0z:i = 0
        · subst hi0z
          have HS2:Hid (ordQ hndE Hnd.ky (l.drop (0 + 1)) (prevP Hnd.ky l (0 + 1)) = ordP 256 hndE Hnd.ky l):=Lib.hid (by rw [← HS.out];exact (ordQ_first hkl (by rw [← HX.out];exact HXZ.out)).symm)
          have hd:decide ((0:Int) < ((0:Nat):Int)) = false:=decide_eq_false (by omega)
          simp only [Nat.zero_mul,Nat.add_zero] at x0 x1 x2 x3 x4 x5 x6
          have HG:=Lib.hid (Blk.new wr 77 #[.int .i64 (x.ch),.int .i64 (x.at_),.string ⟨x.fr.toArray⟩,.int .i64 (x.pa),.int .i64 (x.lv),.int .i64 (x.st),.int .i64 (x.ti)])
          replace HB:=Lib.hid (HB.out.alloc HB.out.size (.cells #[.int .i64 (x.ch),.int .i64 (x.at_),.string ⟨x.fr.toArray⟩,.int .i64 (x.pa),.int .i64 (x.lv),.int .i64 (x.st),.int .i64 (x.ti)] 77))
          obtain ⟨g0,g1,g2,g3,g4,g5,g6,gf0,gf1,gf2,gf3,gf4,gf5,gf6⟩:=HG.out.c7
          go_wp2_with (first | (with_reducible refine ((HC0.out _ (ENV.out.below HB.out)).mono ?_);rintro e w' ⟨rfl,hb⟩;replace HG:=Lib.hid (HG.out.keep hb);clear g0 g1 g2 g3 g4 g5 g6 gf0 gf1 gf2 gf3 gf4 gf5 gf6;replace HB:=Lib.hid (bch' HB.out hb);clear hb;obtain ⟨g0,g1,g2,g3,g4,g5,g6,gf0,gf1,gf2,gf3,gf4,gf5,gf6⟩:=HG.out.c7))
          clear x0 x1 x2 x3 x4 x5 x6 hbr
          have f0:=fun p:BelowOf _ => (HG.out.keep p.h).c7.1
          have f1:=fun p:BelowOf _ => (HG.out.keep p.h).c7.2.1
          have f2:=fun p:BelowOf _ => (HG.out.keep p.h).c7.2.2.1
          have f3:=fun p:BelowOf _ => (HG.out.keep p.h).c7.2.2.2.1
          have f4:=fun p:BelowOf _ => (HG.out.keep p.h).c7.2.2.2.2.1
          have f5:=fun p:BelowOf _ => (HG.out.keep p.h).c7.2.2.2.2.2.1
          have f6:=fun p:BelowOf _ => (HG.out.keep p.h).c7.2.2.2.2.2.2.1
          refine wp_region_WQ (by kernel_rfl) (by kernel_rfl) ?_
          repeat (refine WQ.step (fun K hK => ?_);go_simp;first | (refine hK.out _ ?_;clear hK K) | (apply Exists.intro;refine ⟨fun _ => ?_,hK.out _ ?_⟩;(first | rfl);clear hK K))
          refine WQ.nil ?_
          intro _ hw'
          obtain ⟨⟨wq,hbq⟩,hw2⟩:=hw'
          subst hw2
          replace HB:=Lib.hid (bch' HB.out hbq)
          clear f0 f1 f2 f3 f4 f5 f6
          go_wp2_with fail
          go_roundw
          case rel => exact ⟨0 + 1,r,by first | rfl | simp,Lib.hid (by have:=hkr.out;omega),Lib.hid (fun j hj h => by by_cases e:j = 0;(subst e;rw [← HX.out];exact HXZ.out);exact HPZ.out j hj (by omega)),HB,HS2⟩
          case measure => first | (simp [intOf];done) | (simp [intOf];omega)
        · have hi1:i - 1 < l.length:=by omega
          have hgi:(0:Int) < (i:Int):=by omega
          have hd:decide (0 < i) = true:=decide_eq_true (by omega)
          have hm1:IntKind.i64.wrap ((i:Int) - 1) = ((i - 1:Nat):Int):=by rw [IntWalk.i64_in _ (by omega)];omega
          have hlo1:(i - 1) * 7 < 9223372036854775807:=by omega
          obtain ⟨y,hy⟩:∃ y,y = l[i - 1]'hi1:=⟨_,rfl⟩
          have hcy:=hC (i - 1) hi1
          rw [← hy] at hcy
          have HCY:=Lib.hid hcy;have HY:=Lib.hid hy;clear hcy hy hC
          have hyz:hndE y = 0:=by rw [HY.out];exact HPZ.out (i - 1) hi1 (by omega)
          have hd0:=fun W => own_pcompare y.ch y.at_ x.ch x.at_ W
          clear hyz
          by_cases hle:ltP y.ky x.ky = true
          · have HS2:Hid (ordQ hndE Hnd.ky (l.drop (i + 1)) (prevP Hnd.ky l (i + 1)) = ordP 256 hndE Hnd.ky l):=Lib.hid (by rw [← HS.out];obtain ⟨i,rfl⟩:∃ m,i = m + 1:=⟨i - 1,by omega⟩;rw [HX.out,HY.out] at hle;exact (ordQ_next hkl (by rw [← HX.out];exact HXZ.out) hle).symm)
            have hge:decide ((0:Int) ≤ cpP (y.ch,y.at_) (x.ch,x.at_)) = false:=decide_eq_false (fun h => by have:=cpP_ge.1 h;rw [show ltP (y.ch,y.at_) (x.ch,x.at_) = true from hle] at this;cases this)
            clear hle
            generalize cpP (y.ch,y.at_) (x.ch,x.at_) = z at *
            have HD:=Lib.hid hd0;clear hd0
            have HG:=Lib.hid (Blk.new wr 77 #[.int .i64 (x.ch),.int .i64 (x.at_),.string ⟨x.fr.toArray⟩,.int .i64 (x.pa),.int .i64 (x.lv),.int .i64 (x.st),.int .i64 (x.ti)])
            replace HB:=Lib.hid (HB.out.alloc HB.out.size (.cells #[.int .i64 (x.ch),.int .i64 (x.at_),.string ⟨x.fr.toArray⟩,.int .i64 (x.pa),.int .i64 (x.lv),.int .i64 (x.st),.int .i64 (x.ti)] 77))
            obtain ⟨g0,g1,g2,g3,g4,g5,g6,gf0,gf1,gf2,gf3,gf4,gf5,gf6⟩:=HG.out.c7
            go_wp2_with (first | (with_reducible refine ((HC0.out _ (ENV.out.below HB.out)).mono ?_);rintro e w' ⟨rfl,hb⟩;replace HG:=Lib.hid (HG.out.keep hb);clear g0 g1 g2 g3 g4 g5 g6 gf0 gf1 gf2 gf3 gf4 gf5 gf6;replace HB:=Lib.hid (bch' HB.out hb);clear hb;obtain ⟨g0,g1,g2,g3,g4,g5,g6,gf0,gf1,gf2,gf3,gf4,gf5,gf6⟩:=HG.out.c7))
            clear x0 x1 x2 x3 x4 x5 x6 hbr
            have f0:=fun p:BelowOf _ => (HG.out.keep p.h).c7.1
            have f1:=fun p:BelowOf _ => (HG.out.keep p.h).c7.2.1
            have f2:=fun p:BelowOf _ => (HG.out.keep p.h).c7.2.2.1
            have f3:=fun p:BelowOf _ => (HG.out.keep p.h).c7.2.2.2.1
            have f4:=fun p:BelowOf _ => (HG.out.keep p.h).c7.2.2.2.2.1
            have f5:=fun p:BelowOf _ => (HG.out.keep p.h).c7.2.2.2.2.2.1
            have f6:=fun p:BelowOf _ => (HG.out.keep p.h).c7.2.2.2.2.2.2.1
            have e0:=fun p:BelowOf _ => ((bch' HB.out p.h).cell (p:=⟨b,o + (i - 1) * 7,none⟩) HBb.out).trans (HCY.out 0 _ rfl)
            have e1:=fun p:BelowOf _ => ((bch' HB.out p.h).cell (p:=⟨b,o + (i - 1) * 7 + 1,none⟩) HBb.out).trans (HCY.out 1 _ rfl)
            have e2:=fun p:BelowOf _ => ((bch' HB.out p.h).cell (p:=⟨b,o + (i - 1) * 7 + 2,none⟩) HBb.out).trans (HCY.out 2 _ rfl)
            have e3:=fun p:BelowOf _ => ((bch' HB.out p.h).cell (p:=⟨b,o + (i - 1) * 7 + 3,none⟩) HBb.out).trans (HCY.out 3 _ rfl)
            have e4:=fun p:BelowOf _ => ((bch' HB.out p.h).cell (p:=⟨b,o + (i - 1) * 7 + 4,none⟩) HBb.out).trans (HCY.out 4 _ rfl)
            have e5:=fun p:BelowOf _ => ((bch' HB.out p.h).cell (p:=⟨b,o + (i - 1) * 7 + 5,none⟩) HBb.out).trans (HCY.out 5 _ rfl)
            have e6:=fun p:BelowOf _ => ((bch' HB.out p.h).cell (p:=⟨b,o + (i - 1) * 7 + 6,none⟩) HBb.out).trans (HCY.out 6 _ rfl)
            have zz:=fun p:BelowOf _ => Nat.lt_of_lt_of_le HBb.out (bch' HB.out p.h).size
            refine wp_region_WQ (by kernel_rfl) (by kernel_rfl) ?_
            repeat (refine WQ.step (fun K hK => ?_);go_simp;first | (refine hK.out _ ?_;clear hK K) | (apply Exists.intro;refine ⟨fun _ => ?_,hK.out _ ?_⟩;(first | rfl | (with_reducible exact calls_below_of _ (HD.out _)));clear hK K))
            refine WQ.nil ?_
            intro _ hw'
            obtain ⟨⟨wq,hbq⟩,hw2⟩:=hw'
            subst hw2
            replace HB:=Lib.hid (bch' HB.out hbq)
            clear f0 f1 f2 f3 f4 f5 f6 e0 e1 e2 e3 e4 e5 e6 zz
            go_wp2_with fail
            go_roundw
            case rel => exact ⟨i + 1,r,by first | rfl | simp,Lib.hid (by have:=hkr.out;omega),Lib.hid (fun j hj h => by by_cases e:j = i;(subst e;rw [← HX.out];exact HXZ.out);exact HPZ.out j hj (by omega)),HB,HS2⟩
            case measure => first | (simp [intOf];done) | (simp [intOf];omega)
          · have hle:ltP y.ky x.ky = false:=by simpa using hle
            have HE:Hid (ordP 256 hndE Hnd.ky l = 9):=Lib.hid (by rw [← HS.out];obtain ⟨i,rfl⟩:∃ m,i = m + 1:=⟨i - 1,by omega⟩;rw [HX.out,HY.out] at hle;exact ordQ_low hkl (by rw [← HX.out];exact HXZ.out) hle)
            have hge:decide ((0:Int) ≤ cpP (y.ch,y.at_) (x.ch,x.at_)) = true:=decide_eq_true (cpP_ge.2 hle)
            clear hle
            generalize cpP (y.ch,y.at_) (x.ch,x.at_) = z at *
            have HD:=Lib.hid hd0;clear hd0
            have HG:=Lib.hid (Blk.new wr 77 #[.int .i64 (x.ch),.int .i64 (x.at_),.string ⟨x.fr.toArray⟩,.int .i64 (x.pa),.int .i64 (x.lv),.int .i64 (x.st),.int .i64 (x.ti)])
            replace HB:=Lib.hid (HB.out.alloc HB.out.size (.cells #[.int .i64 (x.ch),.int .i64 (x.at_),.string ⟨x.fr.toArray⟩,.int .i64 (x.pa),.int .i64 (x.lv),.int .i64 (x.st),.int .i64 (x.ti)] 77))
            obtain ⟨g0,g1,g2,g3,g4,g5,g6,gf0,gf1,gf2,gf3,gf4,gf5,gf6⟩:=HG.out.c7
            go_wp2_with (first | (with_reducible refine ((HC0.out _ (ENV.out.below HB.out)).mono ?_);rintro e w' ⟨rfl,hb⟩;replace HG:=Lib.hid (HG.out.keep hb);clear g0 g1 g2 g3 g4 g5 g6 gf0 gf1 gf2 gf3 gf4 gf5 gf6;replace HB:=Lib.hid (bch' HB.out hb);clear hb;obtain ⟨g0,g1,g2,g3,g4,g5,g6,gf0,gf1,gf2,gf3,gf4,gf5,gf6⟩:=HG.out.c7))
            clear x0 x1 x2 x3 x4 x5 x6 hbr
            have f0:=fun p:BelowOf _ => (HG.out.keep p.h).c7.1
            have f1:=fun p:BelowOf _ => (HG.out.keep p.h).c7.2.1
            have f2:=fun p:BelowOf _ => (HG.out.keep p.h).c7.2.2.1
            have f3:=fun p:BelowOf _ => (HG.out.keep p.h).c7.2.2.2.1
            have f4:=fun p:BelowOf _ => (HG.out.keep p.h).c7.2.2.2.2.1
            have f5:=fun p:BelowOf _ => (HG.out.keep p.h).c7.2.2.2.2.2.1
            have f6:=fun p:BelowOf _ => (HG.out.keep p.h).c7.2.2.2.2.2.2.1
            have e0:=fun p:BelowOf _ => ((bch' HB.out p.h).cell (p:=⟨b,o + (i - 1) * 7,none⟩) HBb.out).trans (HCY.out 0 _ rfl)
            have e1:=fun p:BelowOf _ => ((bch' HB.out p.h).cell (p:=⟨b,o + (i - 1) * 7 + 1,none⟩) HBb.out).trans (HCY.out 1 _ rfl)
            have e2:=fun p:BelowOf _ => ((bch' HB.out p.h).cell (p:=⟨b,o + (i - 1) * 7 + 2,none⟩) HBb.out).trans (HCY.out 2 _ rfl)
            have e3:=fun p:BelowOf _ => ((bch' HB.out p.h).cell (p:=⟨b,o + (i - 1) * 7 + 3,none⟩) HBb.out).trans (HCY.out 3 _ rfl)
            have e4:=fun p:BelowOf _ => ((bch' HB.out p.h).cell (p:=⟨b,o + (i - 1) * 7 + 4,none⟩) HBb.out).trans (HCY.out 4 _ rfl)
            have e5:=fun p:BelowOf _ => ((bch' HB.out p.h).cell (p:=⟨b,o + (i - 1) * 7 + 5,none⟩) HBb.out).trans (HCY.out 5 _ rfl)
            have e6:=fun p:BelowOf _ => ((bch' HB.out p.h).cell (p:=⟨b,o + (i - 1) * 7 + 6,none⟩) HBb.out).trans (HCY.out 6 _ rfl)
            have zz:=fun p:BelowOf _ => Nat.lt_of_lt_of_le HBb.out (bch' HB.out p.h).size
            refine wp_region_WQ (by kernel_rfl) (by kernel_rfl) ?_
            repeat (refine WQ.step (fun K hK => ?_);go_simp;first | (refine hK.out _ ?_;clear hK K) | (apply Exists.intro;refine ⟨fun _ => ?_,hK.out _ ?_⟩;(first | rfl | (with_reducible exact calls_below_of _ (HD.out _)));clear hK K))
            refine WQ.nil ?_
            intro _ hw'
            obtain ⟨⟨wq,hbq⟩,hw2⟩:=hw'
            subst hw2
            replace HB:=Lib.hid (bch' HB.out hbq)
            clear f0 f1 f2 f3 f4 f5 f6 e0 e1 e2 e3 e4 e5 e6 zz
            go_wp2_with fail
            go_ret
            exact ⟨by first | (rw [HE.out];done) | (rw [HE.out];rfl),HB.out⟩
      · have HE:Hid (ordP 256 hndE Hnd.ky l = hndE x):=Lib.hid (by rw [← HS.out,ordQ_err hkl (by rw [← HX.out,show hndE x = hndE x from rfl];exact hz0),← HX.out,show hndE x = hndE x from rfl])
        have hne:((hndE x:Int) != 0) = true:=by simpa using hz0
        have hc0:=fun W (e:Env W) => own_pright x.ch x.at_ x.fr x.pa x.lv x.st x.ti W hxl e
        clear hz0
        generalize hndE x = m at *
        have HC0:=Lib.hid hc0;clear hc0
        have HG:=Lib.hid (Blk.new wr 77 #[.int .i64 (x.ch),.int .i64 (x.at_),.string ⟨x.fr.toArray⟩,.int .i64 (x.pa),.int .i64 (x.lv),.int .i64 (x.st),.int .i64 (x.ti)])
        replace HB:=Lib.hid (HB.out.alloc HB.out.size (.cells #[.int .i64 (x.ch),.int .i64 (x.at_),.string ⟨x.fr.toArray⟩,.int .i64 (x.pa),.int .i64 (x.lv),.int .i64 (x.st),.int .i64 (x.ti)] 77))
        obtain ⟨g0,g1,g2,g3,g4,g5,g6,gf0,gf1,gf2,gf3,gf4,gf5,gf6⟩:=HG.out.c7
        go_wp2_with (first | (with_reducible refine ((HC0.out _ (ENV.out.below HB.out)).mono ?_);rintro e w' ⟨rfl,hb⟩;replace HG:=Lib.hid (HG.out.keep hb);clear g0 g1 g2 g3 g4 g5 g6 gf0 gf1 gf2 gf3 gf4 gf5 gf6;replace HB:=Lib.hid (bch' HB.out hb);clear hb;obtain ⟨g0,g1,g2,g3,g4,g5,g6,gf0,gf1,gf2,gf3,gf4,gf5,gf6⟩:=HG.out.c7))
        go_ret
        exact ⟨by first | (rw [HE.out];done) | (rw [HE.out];rfl),HB.out⟩
theorem r15_before (x y z u : Int) (w : World) :
    Calls Tryz.prog 16 #[.agg #[.int .i64 x,.int .i64 y],.agg #[.int .i64 z,.int .i64 u]] w fun e w' => e = .returned (.bool (ltP (x,y) (z,u))) ∧ Below w.heap.size w w':=by
  have hal:=((Below.refl w.heap.size w).alloc (Nat.le_refl _) (.cells #[.int .i64 x,.int .i64 y] 34)).alloc (by simp) (.cells #[.int .i64 z,.int .i64 u] 34)
  have HB:=Lib.hid hal;clear hal
  have HX:=Lib.hid ((Blk.new w 34 #[.int .i64 x,.int .i64 y]).alloc (.cells #[.int .i64 z,.int .i64 u] 34))
  have hA:=Blk.new (w.alloc (.cells #[.int .i64 x,.int .i64 y] 34)) 34 #[.int .i64 z,.int .i64 u]
  rw [World.size_alloc] at hA
  have HZ:=Lib.hid hA;clear hA
  go_enter Tryz.func16,Tryz.ntmps16
  go_upto_region 1 with fail
  obtain ⟨W2,hW2⟩:∃ X,X = (w.alloc (.cells #[.int .i64 x,.int .i64 y] 34)).alloc (.cells #[.int .i64 z,.int .i64 u] 34):=⟨_,rfl⟩
  rw [← hW2] at HB HX HZ ⊢
  clear hW2
  obtain ⟨p0,p1,pf0,pf1⟩:=HX.out.c2
  obtain ⟨q0,q1,qf0,qf1⟩:=HZ.out.c2
  by_cases h1:x < z
  · have HE:Hid (ltP (x,y) (z,u) = true):=Lib.hid (by rw [ltP_iff];omega)
    try clear h2
    go_wp2_with fail
    go_ret
    exact ⟨by first | (rw [HE.out];done) | (rw [HE.out];rfl),HB.out⟩
  · by_cases h2:x = z
    · have heq:((x:Int) == z) = true:=by rw [beq_iff_eq];exact h2
      by_cases h3:y < u
      · have HE:Hid (ltP (x,y) (z,u) = true):=Lib.hid (by rw [ltP_iff];omega)
        try clear h2
        go_wp2_with fail
        go_ret
        exact ⟨by first | (rw [HE.out];done) | (rw [HE.out];rfl),HB.out⟩
      · have HE:Hid (ltP (x,y) (z,u) = false):=Lib.hid (by rw [ltP_false];omega)
        try clear h2
        go_wp2_with fail
        go_ret
        exact ⟨by first | (rw [HE.out];done) | (rw [HE.out];rfl),HB.out⟩
    · have heq:((x:Int) == z) = false:=by rw [beq_eq_false_iff_ne];exact h2
      have HE:Hid (ltP (x,y) (z,u) = false):=Lib.hid (by rw [ltP_false];omega)
      try clear h2
      go_wp2_with fail
      go_ret
      exact ⟨by first | (rw [HE.out];done) | (rw [HE.out];rfl),HB.out⟩
theorem r29_hand (ch a : Int) (fr : Txt) (pa lv st ti : Int) (w : World) (hx : fr.length ≤ 1000) :
    Calls Tryz.prog 37 #[.agg #[.int .i64 ch,.int .i64 a,.string ⟨fr.toArray⟩,.int .i64 pa,.int .i64 lv,.int .i64 st,.int .i64 ti]] w fun e w' => e = .returned (.int .i64 (hndE ⟨ch,a,fr,pa,lv,st,ti⟩)) ∧ Below w.heap.size w w':=by
  have HK:=Lib.hid (Blk.new w 77 #[.int .i64 ch,.int .i64 a,.string ⟨fr.toArray⟩,.int .i64 pa,.int .i64 lv,.int .i64 st,.int .i64 ti])
  have HB:=Lib.hid ((Below.refl w.heap.size w).alloc (Nat.le_refl _) (.cells #[.int .i64 ch,.int .i64 a,.string ⟨fr.toArray⟩,.int .i64 pa,.int .i64 lv,.int .i64 st,.int .i64 ti] 77))
  obtain ⟨k0,k1,k2,k3,k4,k5,k6,kf0,kf1,kf2,kf3,kf4,kf5,kf6⟩:=HK.out.c7
  have hp:=fun W => r15_par ch a W
  have hv:=fun W => r15_val pa lv W
  have hl:=fun W => r3_level fr W hx
  have ht1:=fun W => r3_time st W
  have ht2:=fun W => r3_time ti W
  by_cases h1:paE ch a = 0
  · by_cases h2:valE pa lv = 0
    · by_cases h3:levE fr = 0
      · by_cases h4:0 ≤ st ∧ st ≤ 10000000
        · by_cases h5:0 ≤ ti ∧ ti ≤ 10000000
          · have HE:Hid (hndE ⟨ch,a,fr,pa,lv,st,ti⟩ = 0):=Lib.hid ((hndE_lv (x:=⟨ch,a,fr,pa,lv,st,ti⟩) h1 h2).trans (glE_in h3 ⟨by omega,h4,h5⟩))
            rw [h1] at hp
            rw [h2] at hv
            rw [h3] at hl
            rw [decide_eq_true h4] at ht1
            rw [decide_eq_true h5] at ht2
            clear h1 h2 h3 h4 h5
            have HV_:=Lib.hid hv;clear hv
            have HP:=Lib.hid hp;clear hp
            have HL:=Lib.hid hl;clear hl
            have HT1:=Lib.hid ht1;clear ht1
            have HT2:=Lib.hid ht2;clear ht2
            clear hx
            go_enter Tryz.func37,Tryz.ntmps37
            go_wp2_with (first | (with_reducible refine ((HP.out _).mono ?_);rintro e w' ⟨rfl,hb⟩;replace HK:=Lib.hid (HK.out.keep hb);clear k0 k1 k2 k3 k4 k5 k6 kf0 kf1 kf2 kf3 kf4 kf5 kf6;replace HB:=Lib.hid (bch' HB.out hb);clear hb;obtain ⟨k0,k1,k2,k3,k4,k5,k6,kf0,kf1,kf2,kf3,kf4,kf5,kf6⟩:=HK.out.c7) | (with_reducible refine ((HV_.out _).mono ?_);rintro e w' ⟨rfl,hb⟩;replace HK:=Lib.hid (HK.out.keep hb);clear k0 k1 k2 k3 k4 k5 k6 kf0 kf1 kf2 kf3 kf4 kf5 kf6;replace HB:=Lib.hid (bch' HB.out hb);clear hb;obtain ⟨k0,k1,k2,k3,k4,k5,k6,kf0,kf1,kf2,kf3,kf4,kf5,kf6⟩:=HK.out.c7) | (with_reducible refine ((HL.out _).mono ?_);rintro e w' ⟨rfl,hb⟩;replace HK:=Lib.hid (HK.out.keep hb);clear k0 k1 k2 k3 k4 k5 k6 kf0 kf1 kf2 kf3 kf4 kf5 kf6;replace HB:=Lib.hid (bch' HB.out hb);clear hb;obtain ⟨k0,k1,k2,k3,k4,k5,k6,kf0,kf1,kf2,kf3,kf4,kf5,kf6⟩:=HK.out.c7) | (with_reducible refine ((HT1.out _).mono ?_);rintro e w' ⟨rfl,rfl⟩) | (with_reducible refine ((HT2.out _).mono ?_);rintro e w' ⟨rfl,rfl⟩))
            go_ret
            exact ⟨by first | (rw [HE.out];done) | (rw [HE.out];rfl),HB.out⟩
          · have HE:Hid (hndE ⟨ch,a,fr,pa,lv,st,ti⟩ = 2):=Lib.hid ((hndE_lv (x:=⟨ch,a,fr,pa,lv,st,ti⟩) h1 h2).trans (glE_out h3 (fun h => h5 h.2.2)))
            rw [h1] at hp
            rw [h2] at hv
            rw [h3] at hl
            rw [decide_eq_true h4] at ht1
            rw [decide_eq_false h5] at ht2
            clear h1 h2 h3 h4 h5
            have HV_:=Lib.hid hv;clear hv
            have HP:=Lib.hid hp;clear hp
            have HL:=Lib.hid hl;clear hl
            have HT1:=Lib.hid ht1;clear ht1
            have HT2:=Lib.hid ht2;clear ht2
            clear hx
            go_enter Tryz.func37,Tryz.ntmps37
            go_wp2_with (first | (with_reducible refine ((HP.out _).mono ?_);rintro e w' ⟨rfl,hb⟩;replace HK:=Lib.hid (HK.out.keep hb);clear k0 k1 k2 k3 k4 k5 k6 kf0 kf1 kf2 kf3 kf4 kf5 kf6;replace HB:=Lib.hid (bch' HB.out hb);clear hb;obtain ⟨k0,k1,k2,k3,k4,k5,k6,kf0,kf1,kf2,kf3,kf4,kf5,kf6⟩:=HK.out.c7) | (with_reducible refine ((HV_.out _).mono ?_);rintro e w' ⟨rfl,hb⟩;replace HK:=Lib.hid (HK.out.keep hb);clear k0 k1 k2 k3 k4 k5 k6 kf0 kf1 kf2 kf3 kf4 kf5 kf6;replace HB:=Lib.hid (bch' HB.out hb);clear hb;obtain ⟨k0,k1,k2,k3,k4,k5,k6,kf0,kf1,kf2,kf3,kf4,kf5,kf6⟩:=HK.out.c7) | (with_reducible refine ((HL.out _).mono ?_);rintro e w' ⟨rfl,hb⟩;replace HK:=Lib.hid (HK.out.keep hb);clear k0 k1 k2 k3 k4 k5 k6 kf0 kf1 kf2 kf3 kf4 kf5 kf6;replace HB:=Lib.hid (bch' HB.out hb);clear hb;obtain ⟨k0,k1,k2,k3,k4,k5,k6,kf0,kf1,kf2,kf3,kf4,kf5,kf6⟩:=HK.out.c7) | (with_reducible refine ((HT1.out _).mono ?_);rintro e w' ⟨rfl,rfl⟩) | (with_reducible refine ((HT2.out _).mono ?_);rintro e w' ⟨rfl,rfl⟩))
            go_ret
            exact ⟨by first | (rw [HE.out];done) | (rw [HE.out];rfl),HB.out⟩
        · have HE:Hid (hndE ⟨ch,a,fr,pa,lv,st,ti⟩ = 2):=Lib.hid ((hndE_lv (x:=⟨ch,a,fr,pa,lv,st,ti⟩) h1 h2).trans (glE_out h3 (fun h => h4 h.2.1)))
          rw [h1] at hp
          rw [h2] at hv
          rw [h3] at hl
          rw [decide_eq_false h4] at ht1
          clear h1 h2 h3 h4
          have HV_:=Lib.hid hv;clear hv
          have HP:=Lib.hid hp;clear hp
          have HL:=Lib.hid hl;clear hl
          have HT1:=Lib.hid ht1;clear ht1
          have HT2:=Lib.hid ht2;clear ht2
          clear hx
          go_enter Tryz.func37,Tryz.ntmps37
          go_wp2_with (first | (with_reducible refine ((HP.out _).mono ?_);rintro e w' ⟨rfl,hb⟩;replace HK:=Lib.hid (HK.out.keep hb);clear k0 k1 k2 k3 k4 k5 k6 kf0 kf1 kf2 kf3 kf4 kf5 kf6;replace HB:=Lib.hid (bch' HB.out hb);clear hb;obtain ⟨k0,k1,k2,k3,k4,k5,k6,kf0,kf1,kf2,kf3,kf4,kf5,kf6⟩:=HK.out.c7) | (with_reducible refine ((HV_.out _).mono ?_);rintro e w' ⟨rfl,hb⟩;replace HK:=Lib.hid (HK.out.keep hb);clear k0 k1 k2 k3 k4 k5 k6 kf0 kf1 kf2 kf3 kf4 kf5 kf6;replace HB:=Lib.hid (bch' HB.out hb);clear hb;obtain ⟨k0,k1,k2,k3,k4,k5,k6,kf0,kf1,kf2,kf3,kf4,kf5,kf6⟩:=HK.out.c7) | (with_reducible refine ((HL.out _).mono ?_);rintro e w' ⟨rfl,hb⟩;replace HK:=Lib.hid (HK.out.keep hb);clear k0 k1 k2 k3 k4 k5 k6 kf0 kf1 kf2 kf3 kf4 kf5 kf6;replace HB:=Lib.hid (bch' HB.out hb);clear hb;obtain ⟨k0,k1,k2,k3,k4,k5,k6,kf0,kf1,kf2,kf3,kf4,kf5,kf6⟩:=HK.out.c7) | (with_reducible refine ((HT1.out _).mono ?_);rintro e w' ⟨rfl,rfl⟩) | (with_reducible refine ((HT2.out _).mono ?_);rintro e w' ⟨rfl,rfl⟩))
          go_ret
          exact ⟨by first | (rw [HE.out];done) | (rw [HE.out];rfl),HB.out⟩
      · have HE:Hid (hndE ⟨ch,a,fr,pa,lv,st,ti⟩ = levE fr):=Lib.hid ((hndE_lv (x:=⟨ch,a,fr,pa,lv,st,ti⟩) h1 h2).trans (glE_lev h3))
        rw [h1] at hp
        rw [h2] at hv
        clear h1 h2
        have hne:((levE fr:Int) != 0) = true:=by simpa using h3
        clear h3
        generalize levE fr = m at *
        have HV_:=Lib.hid hv;clear hv
        have HP:=Lib.hid hp;clear hp
        have HL:=Lib.hid hl;clear hl
        have HT1:=Lib.hid ht1;clear ht1
        have HT2:=Lib.hid ht2;clear ht2
        clear hx
        go_enter Tryz.func37,Tryz.ntmps37
        go_wp2_with (first | (with_reducible refine ((HP.out _).mono ?_);rintro e w' ⟨rfl,hb⟩;replace HK:=Lib.hid (HK.out.keep hb);clear k0 k1 k2 k3 k4 k5 k6 kf0 kf1 kf2 kf3 kf4 kf5 kf6;replace HB:=Lib.hid (bch' HB.out hb);clear hb;obtain ⟨k0,k1,k2,k3,k4,k5,k6,kf0,kf1,kf2,kf3,kf4,kf5,kf6⟩:=HK.out.c7) | (with_reducible refine ((HV_.out _).mono ?_);rintro e w' ⟨rfl,hb⟩;replace HK:=Lib.hid (HK.out.keep hb);clear k0 k1 k2 k3 k4 k5 k6 kf0 kf1 kf2 kf3 kf4 kf5 kf6;replace HB:=Lib.hid (bch' HB.out hb);clear hb;obtain ⟨k0,k1,k2,k3,k4,k5,k6,kf0,kf1,kf2,kf3,kf4,kf5,kf6⟩:=HK.out.c7) | (with_reducible refine ((HL.out _).mono ?_);rintro e w' ⟨rfl,hb⟩;replace HK:=Lib.hid (HK.out.keep hb);clear k0 k1 k2 k3 k4 k5 k6 kf0 kf1 kf2 kf3 kf4 kf5 kf6;replace HB:=Lib.hid (bch' HB.out hb);clear hb;obtain ⟨k0,k1,k2,k3,k4,k5,k6,kf0,kf1,kf2,kf3,kf4,kf5,kf6⟩:=HK.out.c7))
        go_ret
        exact ⟨by first | (rw [HE.out];done) | (rw [HE.out];rfl),HB.out⟩
    · have HE:Hid (hndE ⟨ch,a,fr,pa,lv,st,ti⟩ = valE pa lv):=Lib.hid (hndE_va (x:=⟨ch,a,fr,pa,lv,st,ti⟩) h1 h2)
      rw [h1] at hp
      clear h1
      have hne:((valE pa lv:Int) != 0) = true:=by simpa using h2
      clear h2
      generalize valE pa lv = m at *
      have HV_:=Lib.hid hv;clear hv
      have HP:=Lib.hid hp;clear hp
      have HL:=Lib.hid hl;clear hl
      have HT1:=Lib.hid ht1;clear ht1
      have HT2:=Lib.hid ht2;clear ht2
      clear hx
      go_enter Tryz.func37,Tryz.ntmps37
      go_wp2_with (first | (with_reducible refine ((HP.out _).mono ?_);rintro e w' ⟨rfl,hb⟩;replace HK:=Lib.hid (HK.out.keep hb);clear k0 k1 k2 k3 k4 k5 k6 kf0 kf1 kf2 kf3 kf4 kf5 kf6;replace HB:=Lib.hid (bch' HB.out hb);clear hb;obtain ⟨k0,k1,k2,k3,k4,k5,k6,kf0,kf1,kf2,kf3,kf4,kf5,kf6⟩:=HK.out.c7) | (with_reducible refine ((HV_.out _).mono ?_);rintro e w' ⟨rfl,hb⟩;replace HK:=Lib.hid (HK.out.keep hb);clear k0 k1 k2 k3 k4 k5 k6 kf0 kf1 kf2 kf3 kf4 kf5 kf6;replace HB:=Lib.hid (bch' HB.out hb);clear hb;obtain ⟨k0,k1,k2,k3,k4,k5,k6,kf0,kf1,kf2,kf3,kf4,kf5,kf6⟩:=HK.out.c7))
      go_ret
      exact ⟨by first | (rw [HE.out];done) | (rw [HE.out];rfl),HB.out⟩
  · have HE:Hid (hndE ⟨ch,a,fr,pa,lv,st,ti⟩ = paE ch a):=Lib.hid (hndE_pa (x:=⟨ch,a,fr,pa,lv,st,ti⟩) h1)
    have hne:((paE ch a:Int) != 0) = true:=by simpa using h1
    clear h1
    generalize paE ch a = m at *
    have HV_:=Lib.hid hv;clear hv
    have HP:=Lib.hid hp;clear hp
    have HL:=Lib.hid hl;clear hl
    have HT1:=Lib.hid ht1;clear ht1
    have HT2:=Lib.hid ht2;clear ht2
    clear hx
    go_enter Tryz.func37,Tryz.ntmps37
    go_wp2_with (first | (with_reducible refine ((HP.out _).mono ?_);rintro e w' ⟨rfl,hb⟩;replace HK:=Lib.hid (HK.out.keep hb);clear k0 k1 k2 k3 k4 k5 k6 kf0 kf1 kf2 kf3 kf4 kf5 kf6;replace HB:=Lib.hid (bch' HB.out hb);clear hb;obtain ⟨k0,k1,k2,k3,k4,k5,k6,kf0,kf1,kf2,kf3,kf4,kf5,kf6⟩:=HK.out.c7))
    go_ret
    exact ⟨by first | (rw [HE.out];done) | (rw [HE.out];rfl),HB.out⟩
theorem r29_check (l : List Hnd) (v : Value) (w : World) (hv : HndsAt w v l) (hx : l.length ≤ 256 → ∀ x ∈ l, x.fr.length ≤ 1000) :
    Calls Tryz.prog 13 #[v] w fun e w' => e = .returned (.int .i64 (ordP 256 hndE Hnd.ky l)) ∧ Below w.heap.size w w':=by
  obtain ⟨p,c,rfl,hR⟩:=hv
  have hv2:=Lib.hid hR;clear hR
  have HB:=Lib.hid (Below.refl w.heap.size w)
  have HXL:=Lib.hid hx;clear hx
  by_cases hm:256 < l.length
  · have hm2:(256:Int) < (l.length:Int):=by omega
    have HE:Hid (ordP 256 hndE Hnd.ky l = 5):=Lib.hid (ordP_many hm)
    go_enter Tryz.func13,Tryz.ntmps13
    go_wp2_with fail
    go_ret
    exact ⟨by first | (rw [HE.out];done) | (rw [HE.out];rfl),HB.out⟩
  have hm2:¬ (256:Int) < (l.length:Int):=by omega
  have HS0:Hid (ordQ hndE Hnd.ky (l.drop 0) (prevP Hnd.ky l 0) = ordP 256 hndE Hnd.ky l):=Lib.hid (ordP_few hm).symm
  go_enter Tryz.func13,Tryz.ntmps13
  go_wp2_with fail
  go_loopw [3] (fun s wr => ∃ i r:Nat,s = .int .i64 (i:Int) ∧ Hid (i + r = l.length) ∧ Hid (∀ j (hj:j < l.length),j < i → hndE (l[j]'hj) = 0) ∧ Hid (Below w.heap.size w wr) ∧ Hid (ordQ hndE Hnd.ky (l.drop i) (prevP Hnd.ky l i) = ordP 256 hndE Hnd.ky l)) (fun s _ => l.length - (intOf s).toNat)
  case atStart => exact ⟨0,l.length,rfl,Lib.hid (by omega),Lib.hid (fun j hj h => absurd h (Nat.not_lt_zero _)),HB,HS0⟩
  case round =>
    clear HB
    obtain ⟨i,r,rfl,hkr,HPZ,HB,HS⟩:=hrel
    cases r with
    | zero =>
      have hlt:¬ (i:Int) < (l.length:Int):=by have:=hkr.out;omega
      have HE:Hid (ordP 256 hndE Hnd.ky l = 0):=Lib.hid (by rw [← HS.out,show i = l.length from hkr.out];exact ordQ_end)
      go_wp2_with fail
      go_ret
      exact ⟨by first | (rw [HE.out];done) | (rw [HE.out];rfl),HB.out⟩
    | succ r =>
      have hkl:i < l.length:=by have:=hkr.out;omega
      have hlt:(i:Int) < (l.length:Int):=by omega
      have hi0:(0:Int) ≤ (i:Int):=by omega
      have hlo:i * 7 < 9223372036854775807:=by omega
      have hun:IntKind.i64.wrap ((i:Int) + 1) = (i:Int) + 1:=IntWalk.i64_in _ (by omega)
      obtain ⟨b,o,rfl,hb,hC⟩:=hv2.out (fun h => by subst h;exact absurd hkl (Nat.not_lt_zero _))
      obtain ⟨x,hx⟩:∃ x,x = l[i]'hkl:=⟨_,rfl⟩
      have hcell:=hC i hkl
      rw [← hx] at hcell
      have HCX:=Lib.hid hcell;have HBb:=Lib.hid hb;have HX:=Lib.hid hx
      clear hcell hx hb
      have hxl:x.fr.length ≤ 1000:=HXL.out (by omega) x (by rw [HX.out];exact List.getElem_mem hkl)
      have x0:wr.cell? ⟨b,o + i * 7,none⟩ = some (.int .i64 (x.ch)):=(HB.out.cell (p:=⟨b,o + i * 7 + 0,none⟩) HBb.out).trans (HCX.out 0 _ rfl)
      have x1:wr.cell? ⟨b,o + i * 7 + 1,none⟩ = some (.int .i64 (x.at_)):=(HB.out.cell (p:=⟨b,o + i * 7 + 1,none⟩) HBb.out).trans (HCX.out 1 _ rfl)
      have x2:wr.cell? ⟨b,o + i * 7 + 2,none⟩ = some (.string ⟨x.fr.toArray⟩):=(HB.out.cell (p:=⟨b,o + i * 7 + 2,none⟩) HBb.out).trans (HCX.out 2 _ rfl)
      have x3:wr.cell? ⟨b,o + i * 7 + 3,none⟩ = some (.int .i64 (x.pa)):=(HB.out.cell (p:=⟨b,o + i * 7 + 3,none⟩) HBb.out).trans (HCX.out 3 _ rfl)
      have x4:wr.cell? ⟨b,o + i * 7 + 4,none⟩ = some (.int .i64 (x.lv)):=(HB.out.cell (p:=⟨b,o + i * 7 + 4,none⟩) HBb.out).trans (HCX.out 4 _ rfl)
      have x5:wr.cell? ⟨b,o + i * 7 + 5,none⟩ = some (.int .i64 (x.st)):=(HB.out.cell (p:=⟨b,o + i * 7 + 5,none⟩) HBb.out).trans (HCX.out 5 _ rfl)
      have x6:wr.cell? ⟨b,o + i * 7 + 6,none⟩ = some (.int .i64 (x.ti)):=(HB.out.cell (p:=⟨b,o + i * 7 + 6,none⟩) HBb.out).trans (HCX.out 6 _ rfl)
      have hbr:b < wr.heap.size:=by have h1:=HB.out.size;have h2:=HBb.out;omega
      by_cases hz0:hndE x = 0
      · have HXZ:Hid (hndE x = 0):=Lib.hid (by rw [show hndE x = hndE x from rfl];exact hz0)
        have hc0:=fun W => r29_hand x.ch x.at_ x.fr x.pa x.lv x.st x.ti W hxl
        rw [hz0] at hc0
        clear hz0
        have HC0:=Lib.hid hc0;clear hc0
        by_cases hi0z:i = 0
        · subst hi0z
          have HS2:Hid (ordQ hndE Hnd.ky (l.drop (0 + 1)) (prevP Hnd.ky l (0 + 1)) = ordP 256 hndE Hnd.ky l):=Lib.hid (by rw [← HS.out];exact (ordQ_first hkl (by rw [← HX.out];exact HXZ.out)).symm)
          have hd:decide ((0:Int) < ((0:Nat):Int)) = false:=decide_eq_false (by omega)
          simp only [Nat.zero_mul,Nat.add_zero] at x0 x1 x2 x3 x4 x5 x6
          go_wp2_with (first | (with_reducible refine ((HC0.out _).mono ?_);rintro e w' ⟨rfl,hb⟩;replace HB:=Lib.hid (bch' HB.out hb);clear hb))
          clear x0 x1 x2 x3 x4 x5 x6 hbr
          refine wp_region_WQ (by kernel_rfl) (by kernel_rfl) ?_
          repeat (refine WQ.step (fun K hK => ?_);go_simp;first | (refine hK.out _ ?_;clear hK K) | (apply Exists.intro;refine ⟨fun _ => ?_,hK.out _ ?_⟩;(first | rfl);clear hK K))
          refine WQ.nil ?_
          intro _ hw'
          obtain ⟨⟨wq,hbq⟩,hw2⟩:=hw'
          subst hw2
          replace HB:=Lib.hid (bch' HB.out hbq)
          go_wp2_with fail
          go_roundw
          case rel => exact ⟨0 + 1,r,by first | rfl | simp,Lib.hid (by have:=hkr.out;omega),Lib.hid (fun j hj h => by by_cases e:j = 0;(subst e;rw [← HX.out];exact HXZ.out);exact HPZ.out j hj (by omega)),HB,HS2⟩
          case measure => first | (simp [intOf];done) | (simp [intOf];omega)
        · have hi1:i - 1 < l.length:=by omega
          have hgi:(0:Int) < (i:Int):=by omega
          have hd:decide (0 < i) = true:=decide_eq_true (by omega)
          have hm1:IntKind.i64.wrap ((i:Int) - 1) = ((i - 1:Nat):Int):=by rw [IntWalk.i64_in _ (by omega)];omega
          have hlo1:(i - 1) * 7 < 9223372036854775807:=by omega
          obtain ⟨y,hy⟩:∃ y,y = l[i - 1]'hi1:=⟨_,rfl⟩
          have hcy:=hC (i - 1) hi1
          rw [← hy] at hcy
          have HCY:=Lib.hid hcy;have HY:=Lib.hid hy;clear hcy hy hC
          have hyz:hndE y = 0:=by rw [HY.out];exact HPZ.out (i - 1) hi1 (by omega)
          have hd0:=fun W => r15_before y.ch y.at_ x.ch x.at_ W
          clear hyz
          by_cases hle:ltP y.ky x.ky = true
          · have HS2:Hid (ordQ hndE Hnd.ky (l.drop (i + 1)) (prevP Hnd.ky l (i + 1)) = ordP 256 hndE Hnd.ky l):=Lib.hid (by rw [← HS.out];obtain ⟨i,rfl⟩:∃ m,i = m + 1:=⟨i - 1,by omega⟩;rw [HX.out,HY.out] at hle;exact (ordQ_next hkl (by rw [← HX.out];exact HXZ.out) hle).symm)
            rw [show ltP (y.ch,y.at_) (x.ch,x.at_) = true from hle] at hd0
            clear hle
            have HD:=Lib.hid hd0;clear hd0
            go_wp2_with (first | (with_reducible refine ((HC0.out _).mono ?_);rintro e w' ⟨rfl,hb⟩;replace HB:=Lib.hid (bch' HB.out hb);clear hb))
            clear x0 x1 x2 x3 x4 x5 x6 hbr
            have f0:=fun p:BelowOf _ => ((bch' HB.out p.h).cell (p:=⟨b,o + i * 7,none⟩) HBb.out).trans (HCX.out 0 _ rfl)
            have f1:=fun p:BelowOf _ => ((bch' HB.out p.h).cell (p:=⟨b,o + i * 7 + 1,none⟩) HBb.out).trans (HCX.out 1 _ rfl)
            have f2:=fun p:BelowOf _ => ((bch' HB.out p.h).cell (p:=⟨b,o + i * 7 + 2,none⟩) HBb.out).trans (HCX.out 2 _ rfl)
            have f3:=fun p:BelowOf _ => ((bch' HB.out p.h).cell (p:=⟨b,o + i * 7 + 3,none⟩) HBb.out).trans (HCX.out 3 _ rfl)
            have f4:=fun p:BelowOf _ => ((bch' HB.out p.h).cell (p:=⟨b,o + i * 7 + 4,none⟩) HBb.out).trans (HCX.out 4 _ rfl)
            have f5:=fun p:BelowOf _ => ((bch' HB.out p.h).cell (p:=⟨b,o + i * 7 + 5,none⟩) HBb.out).trans (HCX.out 5 _ rfl)
            have f6:=fun p:BelowOf _ => ((bch' HB.out p.h).cell (p:=⟨b,o + i * 7 + 6,none⟩) HBb.out).trans (HCX.out 6 _ rfl)
            have e0:=fun p:BelowOf _ => ((bch' HB.out p.h).cell (p:=⟨b,o + (i - 1) * 7,none⟩) HBb.out).trans (HCY.out 0 _ rfl)
            have e1:=fun p:BelowOf _ => ((bch' HB.out p.h).cell (p:=⟨b,o + (i - 1) * 7 + 1,none⟩) HBb.out).trans (HCY.out 1 _ rfl)
            have e2:=fun p:BelowOf _ => ((bch' HB.out p.h).cell (p:=⟨b,o + (i - 1) * 7 + 2,none⟩) HBb.out).trans (HCY.out 2 _ rfl)
            have e3:=fun p:BelowOf _ => ((bch' HB.out p.h).cell (p:=⟨b,o + (i - 1) * 7 + 3,none⟩) HBb.out).trans (HCY.out 3 _ rfl)
            have e4:=fun p:BelowOf _ => ((bch' HB.out p.h).cell (p:=⟨b,o + (i - 1) * 7 + 4,none⟩) HBb.out).trans (HCY.out 4 _ rfl)
            have e5:=fun p:BelowOf _ => ((bch' HB.out p.h).cell (p:=⟨b,o + (i - 1) * 7 + 5,none⟩) HBb.out).trans (HCY.out 5 _ rfl)
            have e6:=fun p:BelowOf _ => ((bch' HB.out p.h).cell (p:=⟨b,o + (i - 1) * 7 + 6,none⟩) HBb.out).trans (HCY.out 6 _ rfl)
            have zz:=fun p:BelowOf _ => Nat.lt_of_lt_of_le HBb.out (bch' HB.out p.h).size
            refine wp_region_WQ (by kernel_rfl) (by kernel_rfl) ?_
            repeat (refine WQ.step (fun K hK => ?_);go_simp;first | (refine hK.out _ ?_;clear hK K) | (apply Exists.intro;refine ⟨fun _ => ?_,hK.out _ ?_⟩;(first | rfl | (with_reducible exact calls_below_of _ (HD.out _)));clear hK K))
            refine WQ.nil ?_
            intro _ hw'
            obtain ⟨⟨wq,hbq⟩,hw2⟩:=hw'
            subst hw2
            replace HB:=Lib.hid (bch' HB.out hbq)
            clear f0 f1 f2 f3 f4 f5 f6 e0 e1 e2 e3 e4 e5 e6 zz
            go_wp2_with fail
            go_roundw
            case rel => exact ⟨i + 1,r,by first | rfl | simp,Lib.hid (by have:=hkr.out;omega),Lib.hid (fun j hj h => by by_cases e:j = i;(subst e;rw [← HX.out];exact HXZ.out);exact HPZ.out j hj (by omega)),HB,HS2⟩
            case measure => first | (simp [intOf];done) | (simp [intOf];omega)
          · have hle:ltP y.ky x.ky = false:=by simpa using hle
            have HE:Hid (ordP 256 hndE Hnd.ky l = 9):=Lib.hid (by rw [← HS.out];obtain ⟨i,rfl⟩:∃ m,i = m + 1:=⟨i - 1,by omega⟩;rw [HX.out,HY.out] at hle;exact ordQ_low hkl (by rw [← HX.out];exact HXZ.out) hle)
            rw [show ltP (y.ch,y.at_) (x.ch,x.at_) = false from hle] at hd0
            clear hle
            have HD:=Lib.hid hd0;clear hd0
            go_wp2_with (first | (with_reducible refine ((HC0.out _).mono ?_);rintro e w' ⟨rfl,hb⟩;replace HB:=Lib.hid (bch' HB.out hb);clear hb))
            clear x0 x1 x2 x3 x4 x5 x6 hbr
            have f0:=fun p:BelowOf _ => ((bch' HB.out p.h).cell (p:=⟨b,o + i * 7,none⟩) HBb.out).trans (HCX.out 0 _ rfl)
            have f1:=fun p:BelowOf _ => ((bch' HB.out p.h).cell (p:=⟨b,o + i * 7 + 1,none⟩) HBb.out).trans (HCX.out 1 _ rfl)
            have f2:=fun p:BelowOf _ => ((bch' HB.out p.h).cell (p:=⟨b,o + i * 7 + 2,none⟩) HBb.out).trans (HCX.out 2 _ rfl)
            have f3:=fun p:BelowOf _ => ((bch' HB.out p.h).cell (p:=⟨b,o + i * 7 + 3,none⟩) HBb.out).trans (HCX.out 3 _ rfl)
            have f4:=fun p:BelowOf _ => ((bch' HB.out p.h).cell (p:=⟨b,o + i * 7 + 4,none⟩) HBb.out).trans (HCX.out 4 _ rfl)
            have f5:=fun p:BelowOf _ => ((bch' HB.out p.h).cell (p:=⟨b,o + i * 7 + 5,none⟩) HBb.out).trans (HCX.out 5 _ rfl)
            have f6:=fun p:BelowOf _ => ((bch' HB.out p.h).cell (p:=⟨b,o + i * 7 + 6,none⟩) HBb.out).trans (HCX.out 6 _ rfl)
            have e0:=fun p:BelowOf _ => ((bch' HB.out p.h).cell (p:=⟨b,o + (i - 1) * 7,none⟩) HBb.out).trans (HCY.out 0 _ rfl)
            have e1:=fun p:BelowOf _ => ((bch' HB.out p.h).cell (p:=⟨b,o + (i - 1) * 7 + 1,none⟩) HBb.out).trans (HCY.out 1 _ rfl)
            have e2:=fun p:BelowOf _ => ((bch' HB.out p.h).cell (p:=⟨b,o + (i - 1) * 7 + 2,none⟩) HBb.out).trans (HCY.out 2 _ rfl)
            have e3:=fun p:BelowOf _ => ((bch' HB.out p.h).cell (p:=⟨b,o + (i - 1) * 7 + 3,none⟩) HBb.out).trans (HCY.out 3 _ rfl)
            have e4:=fun p:BelowOf _ => ((bch' HB.out p.h).cell (p:=⟨b,o + (i - 1) * 7 + 4,none⟩) HBb.out).trans (HCY.out 4 _ rfl)
            have e5:=fun p:BelowOf _ => ((bch' HB.out p.h).cell (p:=⟨b,o + (i - 1) * 7 + 5,none⟩) HBb.out).trans (HCY.out 5 _ rfl)
            have e6:=fun p:BelowOf _ => ((bch' HB.out p.h).cell (p:=⟨b,o + (i - 1) * 7 + 6,none⟩) HBb.out).trans (HCY.out 6 _ rfl)
            have zz:=fun p:BelowOf _ => Nat.lt_of_lt_of_le HBb.out (bch' HB.out p.h).size
            refine wp_region_WQ (by kernel_rfl) (by kernel_rfl) ?_
            repeat (refine WQ.step (fun K hK => ?_);go_simp;first | (refine hK.out _ ?_;clear hK K) | (apply Exists.intro;refine ⟨fun _ => ?_,hK.out _ ?_⟩;(first | rfl | (with_reducible exact calls_below_of _ (HD.out _)));clear hK K))
            refine WQ.nil ?_
            intro _ hw'
            obtain ⟨⟨wq,hbq⟩,hw2⟩:=hw'
            subst hw2
            replace HB:=Lib.hid (bch' HB.out hbq)
            clear f0 f1 f2 f3 f4 f5 f6 e0 e1 e2 e3 e4 e5 e6 zz
            go_wp2_with fail
            go_ret
            exact ⟨by first | (rw [HE.out];done) | (rw [HE.out];rfl),HB.out⟩
      · have HE:Hid (ordP 256 hndE Hnd.ky l = hndE x):=Lib.hid (by rw [← HS.out,ordQ_err hkl (by rw [← HX.out,show hndE x = hndE x from rfl];exact hz0),← HX.out,show hndE x = hndE x from rfl])
        have hne:((hndE x:Int) != 0) = true:=by simpa using hz0
        have hc0:=fun W => r29_hand x.ch x.at_ x.fr x.pa x.lv x.st x.ti W hxl
        clear hz0
        generalize hndE x = m at *
        have HC0:=Lib.hid hc0;clear hc0
        go_wp2_with (first | (with_reducible refine ((HC0.out _).mono ?_);rintro e w' ⟨rfl,hb⟩;replace HB:=Lib.hid (bch' HB.out hb);clear hb))
        go_ret
        exact ⟨by first | (rw [HE.out];done) | (rw [HE.out];rfl),HB.out⟩
end Go.Proofs.YtmjkenlifgmeeaaGreatDoor
set_option maxRecDepth 100000
set_option maxHeartbeats 4000000
namespace Lum
open Go Go.RowKit Go.Shelf
open Go.Lib (decDigits itoa)
def levT (x:Hnd) (t tz:Int):Txt × Int:=if hndE x ≠ 0 then ([],hndE x) else if 0 ≤ tz ∧ tz ≤ 65535 then (showR (glV (valR x.fr) tz x.st x.ti t),0) else ([],2)
end Lum
namespace Go.Proofs.YtmjkenlifgmeeaaGreatDoor
open Go.RowKit Go.Shelf Lum
open Go.Lib (decDigits itoa)
attribute [local go_sem] bs_get bs_extract_end bs_extract_from bs_extract bs_append
theorem r15_entries (l : List Ent) (v : Value) (w : World) (hv : EntsAt w v l) :
    Calls Tryz.prog 6 #[v] w fun e w' => e = .returned (.int .i64 (ordP 4096 entE Ent.ky l)) ∧ Below w.heap.size w w':=by
  obtain ⟨p,c,rfl,hR⟩:=hv
  have hv2:=Lib.hid hR;clear hR
  have HB:=Lib.hid (Below.refl w.heap.size w)
  by_cases hm:4096 < l.length
  · have hm2:(4096:Int) < (l.length:Int):=by omega
    have HE:Hid (ordP 4096 entE Ent.ky l = 5):=Lib.hid (ordP_many hm)
    go_enter Tryz.func6,Tryz.ntmps6
    go_wp2_with fail
    go_ret
    exact ⟨by first | (rw [HE.out];done) | (rw [HE.out];rfl),HB.out⟩
  have hm2:¬ (4096:Int) < (l.length:Int):=by omega
  have HS0:Hid (ordQ entE Ent.ky (l.drop 0) (prevP Ent.ky l 0) = ordP 4096 entE Ent.ky l):=Lib.hid (ordP_few hm).symm
  go_enter Tryz.func6,Tryz.ntmps6
  go_wp2_with fail
  go_loopw [3] (fun s wr => ∃ i r:Nat,s = .int .i64 (i:Int) ∧ Hid (i + r = l.length) ∧ Hid (∀ j (hj:j < l.length),j < i → entE (l[j]'hj) = 0) ∧ Hid (Below w.heap.size w wr) ∧ Hid (ordQ entE Ent.ky (l.drop i) (prevP Ent.ky l i) = ordP 4096 entE Ent.ky l)) (fun s _ => l.length - (intOf s).toNat)
  case atStart => exact ⟨0,l.length,rfl,Lib.hid (by omega),Lib.hid (fun j hj h => absurd h (Nat.not_lt_zero _)),HB,HS0⟩
  case round =>
    clear HB
    obtain ⟨i,r,rfl,hkr,HPZ,HB,HS⟩:=hrel
    cases r with
    | zero =>
      have hlt:¬ (i:Int) < (l.length:Int):=by have:=hkr.out;omega
      have HE:Hid (ordP 4096 entE Ent.ky l = 0):=Lib.hid (by rw [← HS.out,show i = l.length from hkr.out];exact ordQ_end)
      go_wp2_with fail
      go_ret
      exact ⟨by first | (rw [HE.out];done) | (rw [HE.out];rfl),HB.out⟩
    | succ r =>
      have hkl:i < l.length:=by have:=hkr.out;omega
      have hlt:(i:Int) < (l.length:Int):=by omega
      have hi0:(0:Int) ≤ (i:Int):=by omega
      have hlo:i * 4 < 9223372036854775807:=by omega
      have hun:IntKind.i64.wrap ((i:Int) + 1) = (i:Int) + 1:=IntWalk.i64_in _ (by omega)
      obtain ⟨b,o,rfl,hb,hC⟩:=hv2.out (fun h => by subst h;exact absurd hkl (Nat.not_lt_zero _))
      obtain ⟨x,hx⟩:∃ x,x = l[i]'hkl:=⟨_,rfl⟩
      have hcell:=hC i hkl
      rw [← hx] at hcell
      have HCX:=Lib.hid hcell;have HBb:=Lib.hid hb;have HX:=Lib.hid hx
      clear hcell hx hb
      have x0:wr.cell? ⟨b,o + i * 4,none⟩ = some (.int .i64 (x.ch)):=(HB.out.cell (p:=⟨b,o + i * 4 + 0,none⟩) HBb.out).trans (HCX.out 0 _ rfl)
      have x1:wr.cell? ⟨b,o + i * 4 + 1,none⟩ = some (.int .i64 (x.at_)):=(HB.out.cell (p:=⟨b,o + i * 4 + 1,none⟩) HBb.out).trans (HCX.out 1 _ rfl)
      have x2:wr.cell? ⟨b,o + i * 4 + 2,none⟩ = some (.int .i64 (x.pa)):=(HB.out.cell (p:=⟨b,o + i * 4 + 2,none⟩) HBb.out).trans (HCX.out 2 _ rfl)
      have x3:wr.cell? ⟨b,o + i * 4 + 3,none⟩ = some (.int .i64 (x.lv)):=(HB.out.cell (p:=⟨b,o + i * 4 + 3,none⟩) HBb.out).trans (HCX.out 3 _ rfl)
      have hbr:b < wr.heap.size:=by have h1:=HB.out.size;have h2:=HBb.out;omega
      by_cases hz0:paE x.ch x.at_ = 0
      · by_cases hz1:valE x.pa x.lv = 0
        · have HXZ:Hid (entE x = 0):=Lib.hid (by rw [show entE x = valE x.pa x.lv from entE_va hz0];exact hz1)
          have hc0:=fun W => r15_par x.ch x.at_ W
          have hc1:=fun W => r15_val x.pa x.lv W
          rw [hz0] at hc0
          rw [hz1] at hc1
          clear hz0 hz1
          have HC0:=Lib.hid hc0;clear hc0
          have HC1:=Lib.hid hc1;clear hc1
          by_cases hi0z:i = 0
          · subst hi0z
            have HS2:Hid (ordQ entE Ent.ky (l.drop (0 + 1)) (prevP Ent.ky l (0 + 1)) = ordP 4096 entE Ent.ky l):=Lib.hid (by rw [← HS.out];exact (ordQ_first hkl (by rw [← HX.out];exact HXZ.out)).symm)
            have hd:decide ((0:Int) < ((0:Nat):Int)) = false:=decide_eq_false (by omega)
            simp only [Nat.zero_mul,Nat.add_zero] at x0 x1 x2 x3
            go_wp2_with (first | (with_reducible refine ((HC0.out _).mono ?_);rintro e w' ⟨rfl,hb⟩;replace HB:=Lib.hid (bch' HB.out hb);clear hb;replace x0:w'.cell? ⟨b,o,none⟩ = some (.int .i64 (x.ch)):=(by have h9:=(HB.out.cell (p:=⟨b,o + 0 * 4 + 0,none⟩) HBb.out).trans (HCX.out 0 _ rfl);simpa only [Nat.zero_mul,Nat.add_zero] using h9);replace x1:w'.cell? ⟨b,o + 1,none⟩ = some (.int .i64 (x.at_)):=(by have h9:=(HB.out.cell (p:=⟨b,o + 0 * 4 + 1,none⟩) HBb.out).trans (HCX.out 1 _ rfl);simpa only [Nat.zero_mul,Nat.add_zero] using h9);replace x2:w'.cell? ⟨b,o + 2,none⟩ = some (.int .i64 (x.pa)):=(by have h9:=(HB.out.cell (p:=⟨b,o + 0 * 4 + 2,none⟩) HBb.out).trans (HCX.out 2 _ rfl);simpa only [Nat.zero_mul,Nat.add_zero] using h9);replace x3:w'.cell? ⟨b,o + 3,none⟩ = some (.int .i64 (x.lv)):=(by have h9:=(HB.out.cell (p:=⟨b,o + 0 * 4 + 3,none⟩) HBb.out).trans (HCX.out 3 _ rfl);simpa only [Nat.zero_mul,Nat.add_zero] using h9);replace hbr:b < w'.heap.size:=(by have h1:=HB.out.size;have h2:=HBb.out;omega)) | (with_reducible refine ((HC1.out _).mono ?_);rintro e w' ⟨rfl,hb⟩;replace HB:=Lib.hid (bch' HB.out hb);clear hb;replace x0:w'.cell? ⟨b,o,none⟩ = some (.int .i64 (x.ch)):=(by have h9:=(HB.out.cell (p:=⟨b,o + 0 * 4 + 0,none⟩) HBb.out).trans (HCX.out 0 _ rfl);simpa only [Nat.zero_mul,Nat.add_zero] using h9);replace x1:w'.cell? ⟨b,o + 1,none⟩ = some (.int .i64 (x.at_)):=(by have h9:=(HB.out.cell (p:=⟨b,o + 0 * 4 + 1,none⟩) HBb.out).trans (HCX.out 1 _ rfl);simpa only [Nat.zero_mul,Nat.add_zero] using h9);replace x2:w'.cell? ⟨b,o + 2,none⟩ = some (.int .i64 (x.pa)):=(by have h9:=(HB.out.cell (p:=⟨b,o + 0 * 4 + 2,none⟩) HBb.out).trans (HCX.out 2 _ rfl);simpa only [Nat.zero_mul,Nat.add_zero] using h9);replace x3:w'.cell? ⟨b,o + 3,none⟩ = some (.int .i64 (x.lv)):=(by have h9:=(HB.out.cell (p:=⟨b,o + 0 * 4 + 3,none⟩) HBb.out).trans (HCX.out 3 _ rfl);simpa only [Nat.zero_mul,Nat.add_zero] using h9);replace hbr:b < w'.heap.size:=(by have h1:=HB.out.size;have h2:=HBb.out;omega)))
            clear x0 x1 x2 x3 hbr
            refine wp_region_WQ (by kernel_rfl) (by kernel_rfl) ?_
            repeat (refine WQ.step (fun K hK => ?_);go_simp;first | (refine hK.out _ ?_;clear hK K) | (apply Exists.intro;refine ⟨fun _ => ?_,hK.out _ ?_⟩;(first | rfl);clear hK K))
            refine WQ.nil ?_
            intro _ hw'
            obtain ⟨⟨wq,hbq⟩,hw2⟩:=hw'
            subst hw2
            replace HB:=Lib.hid (bch' HB.out hbq)
            go_wp2_with fail
            go_roundw
            case rel => exact ⟨0 + 1,r,by first | rfl | simp,Lib.hid (by have:=hkr.out;omega),Lib.hid (fun j hj h => by by_cases e:j = 0;(subst e;rw [← HX.out];exact HXZ.out);exact HPZ.out j hj (by omega)),HB,HS2⟩
            case measure => first | (simp [intOf];done) | (simp [intOf];omega)
          · have hi1:i - 1 < l.length:=by omega
            have hgi:(0:Int) < (i:Int):=by omega
            have hd:decide (0 < i) = true:=decide_eq_true (by omega)
            have hm1:IntKind.i64.wrap ((i:Int) - 1) = ((i - 1:Nat):Int):=by rw [IntWalk.i64_in _ (by omega)];omega
            have hlo1:(i - 1) * 4 < 9223372036854775807:=by omega
            obtain ⟨y,hy⟩:∃ y,y = l[i - 1]'hi1:=⟨_,rfl⟩
            have hcy:=hC (i - 1) hi1
            rw [← hy] at hcy
            have HCY:=Lib.hid hcy;have HY:=Lib.hid hy;clear hcy hy hC
            have hyz:entE y = 0:=by rw [HY.out];exact HPZ.out (i - 1) hi1 (by omega)
            have hd0:=fun W => r15_before y.ch y.at_ x.ch x.at_ W
            clear hyz
            by_cases hle:ltP y.ky x.ky = true
            · have HS2:Hid (ordQ entE Ent.ky (l.drop (i + 1)) (prevP Ent.ky l (i + 1)) = ordP 4096 entE Ent.ky l):=Lib.hid (by rw [← HS.out];obtain ⟨i,rfl⟩:∃ m,i = m + 1:=⟨i - 1,by omega⟩;rw [HX.out,HY.out] at hle;exact (ordQ_next hkl (by rw [← HX.out];exact HXZ.out) hle).symm)
              rw [show ltP (y.ch,y.at_) (x.ch,x.at_) = true from hle] at hd0
              clear hle
              have HD:=Lib.hid hd0;clear hd0
              go_wp2_with (first | (with_reducible refine ((HC0.out _).mono ?_);rintro e w' ⟨rfl,hb⟩;replace HB:=Lib.hid (bch' HB.out hb);clear hb;replace x0:w'.cell? ⟨b,o + i * 4,none⟩ = some (.int .i64 (x.ch)):=(HB.out.cell (p:=⟨b,o + i * 4 + 0,none⟩) HBb.out).trans (HCX.out 0 _ rfl);replace x1:w'.cell? ⟨b,o + i * 4 + 1,none⟩ = some (.int .i64 (x.at_)):=(HB.out.cell (p:=⟨b,o + i * 4 + 1,none⟩) HBb.out).trans (HCX.out 1 _ rfl);replace x2:w'.cell? ⟨b,o + i * 4 + 2,none⟩ = some (.int .i64 (x.pa)):=(HB.out.cell (p:=⟨b,o + i * 4 + 2,none⟩) HBb.out).trans (HCX.out 2 _ rfl);replace x3:w'.cell? ⟨b,o + i * 4 + 3,none⟩ = some (.int .i64 (x.lv)):=(HB.out.cell (p:=⟨b,o + i * 4 + 3,none⟩) HBb.out).trans (HCX.out 3 _ rfl);replace hbr:b < w'.heap.size:=(by have h1:=HB.out.size;have h2:=HBb.out;omega)) | (with_reducible refine ((HC1.out _).mono ?_);rintro e w' ⟨rfl,hb⟩;replace HB:=Lib.hid (bch' HB.out hb);clear hb;replace x0:w'.cell? ⟨b,o + i * 4,none⟩ = some (.int .i64 (x.ch)):=(HB.out.cell (p:=⟨b,o + i * 4 + 0,none⟩) HBb.out).trans (HCX.out 0 _ rfl);replace x1:w'.cell? ⟨b,o + i * 4 + 1,none⟩ = some (.int .i64 (x.at_)):=(HB.out.cell (p:=⟨b,o + i * 4 + 1,none⟩) HBb.out).trans (HCX.out 1 _ rfl);replace x2:w'.cell? ⟨b,o + i * 4 + 2,none⟩ = some (.int .i64 (x.pa)):=(HB.out.cell (p:=⟨b,o + i * 4 + 2,none⟩) HBb.out).trans (HCX.out 2 _ rfl);replace x3:w'.cell? ⟨b,o + i * 4 + 3,none⟩ = some (.int .i64 (x.lv)):=(HB.out.cell (p:=⟨b,o + i * 4 + 3,none⟩) HBb.out).trans (HCX.out 3 _ rfl);replace hbr:b < w'.heap.size:=(by have h1:=HB.out.size;have h2:=HBb.out;omega)))
              clear x0 x1 x2 x3 hbr
              have f0:=fun p:BelowOf _ => ((bch' HB.out p.h).cell (p:=⟨b,o + i * 4,none⟩) HBb.out).trans (HCX.out 0 _ rfl)
              have f1:=fun p:BelowOf _ => ((bch' HB.out p.h).cell (p:=⟨b,o + i * 4 + 1,none⟩) HBb.out).trans (HCX.out 1 _ rfl)
              have f2:=fun p:BelowOf _ => ((bch' HB.out p.h).cell (p:=⟨b,o + i * 4 + 2,none⟩) HBb.out).trans (HCX.out 2 _ rfl)
              have f3:=fun p:BelowOf _ => ((bch' HB.out p.h).cell (p:=⟨b,o + i * 4 + 3,none⟩) HBb.out).trans (HCX.out 3 _ rfl)
              have e0:=fun p:BelowOf _ => ((bch' HB.out p.h).cell (p:=⟨b,o + (i - 1) * 4,none⟩) HBb.out).trans (HCY.out 0 _ rfl)
              have e1:=fun p:BelowOf _ => ((bch' HB.out p.h).cell (p:=⟨b,o + (i - 1) * 4 + 1,none⟩) HBb.out).trans (HCY.out 1 _ rfl)
              have e2:=fun p:BelowOf _ => ((bch' HB.out p.h).cell (p:=⟨b,o + (i - 1) * 4 + 2,none⟩) HBb.out).trans (HCY.out 2 _ rfl)
              have e3:=fun p:BelowOf _ => ((bch' HB.out p.h).cell (p:=⟨b,o + (i - 1) * 4 + 3,none⟩) HBb.out).trans (HCY.out 3 _ rfl)
              have zz:=fun p:BelowOf _ => Nat.lt_of_lt_of_le HBb.out (bch' HB.out p.h).size
              refine wp_region_WQ (by kernel_rfl) (by kernel_rfl) ?_
              repeat (refine WQ.step (fun K hK => ?_);go_simp;first | (refine hK.out _ ?_;clear hK K) | (apply Exists.intro;refine ⟨fun _ => ?_,hK.out _ ?_⟩;(first | rfl | (with_reducible exact calls_below_of _ (HD.out _)));clear hK K))
              refine WQ.nil ?_
              intro _ hw'
              obtain ⟨⟨wq,hbq⟩,hw2⟩:=hw'
              subst hw2
              replace HB:=Lib.hid (bch' HB.out hbq)
              clear f0 f1 f2 f3 e0 e1 e2 e3 zz
              go_wp2_with fail
              go_roundw
              case rel => exact ⟨i + 1,r,by first | rfl | simp,Lib.hid (by have:=hkr.out;omega),Lib.hid (fun j hj h => by by_cases e:j = i;(subst e;rw [← HX.out];exact HXZ.out);exact HPZ.out j hj (by omega)),HB,HS2⟩
              case measure => first | (simp [intOf];done) | (simp [intOf];omega)
            · have hle:ltP y.ky x.ky = false:=by simpa using hle
              have HE:Hid (ordP 4096 entE Ent.ky l = 9):=Lib.hid (by rw [← HS.out];obtain ⟨i,rfl⟩:∃ m,i = m + 1:=⟨i - 1,by omega⟩;rw [HX.out,HY.out] at hle;exact ordQ_low hkl (by rw [← HX.out];exact HXZ.out) hle)
              rw [show ltP (y.ch,y.at_) (x.ch,x.at_) = false from hle] at hd0
              clear hle
              have HD:=Lib.hid hd0;clear hd0
              go_wp2_with (first | (with_reducible refine ((HC0.out _).mono ?_);rintro e w' ⟨rfl,hb⟩;replace HB:=Lib.hid (bch' HB.out hb);clear hb;replace x0:w'.cell? ⟨b,o + i * 4,none⟩ = some (.int .i64 (x.ch)):=(HB.out.cell (p:=⟨b,o + i * 4 + 0,none⟩) HBb.out).trans (HCX.out 0 _ rfl);replace x1:w'.cell? ⟨b,o + i * 4 + 1,none⟩ = some (.int .i64 (x.at_)):=(HB.out.cell (p:=⟨b,o + i * 4 + 1,none⟩) HBb.out).trans (HCX.out 1 _ rfl);replace x2:w'.cell? ⟨b,o + i * 4 + 2,none⟩ = some (.int .i64 (x.pa)):=(HB.out.cell (p:=⟨b,o + i * 4 + 2,none⟩) HBb.out).trans (HCX.out 2 _ rfl);replace x3:w'.cell? ⟨b,o + i * 4 + 3,none⟩ = some (.int .i64 (x.lv)):=(HB.out.cell (p:=⟨b,o + i * 4 + 3,none⟩) HBb.out).trans (HCX.out 3 _ rfl);replace hbr:b < w'.heap.size:=(by have h1:=HB.out.size;have h2:=HBb.out;omega)) | (with_reducible refine ((HC1.out _).mono ?_);rintro e w' ⟨rfl,hb⟩;replace HB:=Lib.hid (bch' HB.out hb);clear hb;replace x0:w'.cell? ⟨b,o + i * 4,none⟩ = some (.int .i64 (x.ch)):=(HB.out.cell (p:=⟨b,o + i * 4 + 0,none⟩) HBb.out).trans (HCX.out 0 _ rfl);replace x1:w'.cell? ⟨b,o + i * 4 + 1,none⟩ = some (.int .i64 (x.at_)):=(HB.out.cell (p:=⟨b,o + i * 4 + 1,none⟩) HBb.out).trans (HCX.out 1 _ rfl);replace x2:w'.cell? ⟨b,o + i * 4 + 2,none⟩ = some (.int .i64 (x.pa)):=(HB.out.cell (p:=⟨b,o + i * 4 + 2,none⟩) HBb.out).trans (HCX.out 2 _ rfl);replace x3:w'.cell? ⟨b,o + i * 4 + 3,none⟩ = some (.int .i64 (x.lv)):=(HB.out.cell (p:=⟨b,o + i * 4 + 3,none⟩) HBb.out).trans (HCX.out 3 _ rfl);replace hbr:b < w'.heap.size:=(by have h1:=HB.out.size;have h2:=HBb.out;omega)))
              clear x0 x1 x2 x3 hbr
              have f0:=fun p:BelowOf _ => ((bch' HB.out p.h).cell (p:=⟨b,o + i * 4,none⟩) HBb.out).trans (HCX.out 0 _ rfl)
              have f1:=fun p:BelowOf _ => ((bch' HB.out p.h).cell (p:=⟨b,o + i * 4 + 1,none⟩) HBb.out).trans (HCX.out 1 _ rfl)
              have f2:=fun p:BelowOf _ => ((bch' HB.out p.h).cell (p:=⟨b,o + i * 4 + 2,none⟩) HBb.out).trans (HCX.out 2 _ rfl)
              have f3:=fun p:BelowOf _ => ((bch' HB.out p.h).cell (p:=⟨b,o + i * 4 + 3,none⟩) HBb.out).trans (HCX.out 3 _ rfl)
              have e0:=fun p:BelowOf _ => ((bch' HB.out p.h).cell (p:=⟨b,o + (i - 1) * 4,none⟩) HBb.out).trans (HCY.out 0 _ rfl)
              have e1:=fun p:BelowOf _ => ((bch' HB.out p.h).cell (p:=⟨b,o + (i - 1) * 4 + 1,none⟩) HBb.out).trans (HCY.out 1 _ rfl)
              have e2:=fun p:BelowOf _ => ((bch' HB.out p.h).cell (p:=⟨b,o + (i - 1) * 4 + 2,none⟩) HBb.out).trans (HCY.out 2 _ rfl)
              have e3:=fun p:BelowOf _ => ((bch' HB.out p.h).cell (p:=⟨b,o + (i - 1) * 4 + 3,none⟩) HBb.out).trans (HCY.out 3 _ rfl)
              have zz:=fun p:BelowOf _ => Nat.lt_of_lt_of_le HBb.out (bch' HB.out p.h).size
              refine wp_region_WQ (by kernel_rfl) (by kernel_rfl) ?_
              repeat (refine WQ.step (fun K hK => ?_);go_simp;first | (refine hK.out _ ?_;clear hK K) | (apply Exists.intro;refine ⟨fun _ => ?_,hK.out _ ?_⟩;(first | rfl | (with_reducible exact calls_below_of _ (HD.out _)));clear hK K))
              refine WQ.nil ?_
              intro _ hw'
              obtain ⟨⟨wq,hbq⟩,hw2⟩:=hw'
              subst hw2
              replace HB:=Lib.hid (bch' HB.out hbq)
              clear f0 f1 f2 f3 e0 e1 e2 e3 zz
              go_wp2_with fail
              go_ret
              exact ⟨by first | (rw [HE.out];done) | (rw [HE.out];rfl),HB.out⟩
        · have HE:Hid (ordP 4096 entE Ent.ky l = valE x.pa x.lv):=Lib.hid (by rw [← HS.out,ordQ_err hkl (by rw [← HX.out,show entE x = valE x.pa x.lv from entE_va hz0];exact hz1),← HX.out,show entE x = valE x.pa x.lv from entE_va hz0])
          have hne:((valE x.pa x.lv:Int) != 0) = true:=by simpa using hz1
          have hc0:=fun W => r15_par x.ch x.at_ W
          have hc1:=fun W => r15_val x.pa x.lv W
          rw [hz0] at hc0
          clear hz0 hz1
          generalize valE x.pa x.lv = m at *
          have HC0:=Lib.hid hc0;clear hc0
          have HC1:=Lib.hid hc1;clear hc1
          go_wp2_with (first | (with_reducible refine ((HC0.out _).mono ?_);rintro e w' ⟨rfl,hb⟩;replace HB:=Lib.hid (bch' HB.out hb);clear hb;replace x0:w'.cell? ⟨b,o + i * 4,none⟩ = some (.int .i64 (x.ch)):=(HB.out.cell (p:=⟨b,o + i * 4 + 0,none⟩) HBb.out).trans (HCX.out 0 _ rfl);replace x1:w'.cell? ⟨b,o + i * 4 + 1,none⟩ = some (.int .i64 (x.at_)):=(HB.out.cell (p:=⟨b,o + i * 4 + 1,none⟩) HBb.out).trans (HCX.out 1 _ rfl);replace x2:w'.cell? ⟨b,o + i * 4 + 2,none⟩ = some (.int .i64 (x.pa)):=(HB.out.cell (p:=⟨b,o + i * 4 + 2,none⟩) HBb.out).trans (HCX.out 2 _ rfl);replace x3:w'.cell? ⟨b,o + i * 4 + 3,none⟩ = some (.int .i64 (x.lv)):=(HB.out.cell (p:=⟨b,o + i * 4 + 3,none⟩) HBb.out).trans (HCX.out 3 _ rfl);replace hbr:b < w'.heap.size:=(by have h1:=HB.out.size;have h2:=HBb.out;omega)) | (with_reducible refine ((HC1.out _).mono ?_);rintro e w' ⟨rfl,hb⟩;replace HB:=Lib.hid (bch' HB.out hb);clear hb;replace x0:w'.cell? ⟨b,o + i * 4,none⟩ = some (.int .i64 (x.ch)):=(HB.out.cell (p:=⟨b,o + i * 4 + 0,none⟩) HBb.out).trans (HCX.out 0 _ rfl);replace x1:w'.cell? ⟨b,o + i * 4 + 1,none⟩ = some (.int .i64 (x.at_)):=(HB.out.cell (p:=⟨b,o + i * 4 + 1,none⟩) HBb.out).trans (HCX.out 1 _ rfl);replace x2:w'.cell? ⟨b,o + i * 4 + 2,none⟩ = some (.int .i64 (x.pa)):=(HB.out.cell (p:=⟨b,o + i * 4 + 2,none⟩) HBb.out).trans (HCX.out 2 _ rfl);replace x3:w'.cell? ⟨b,o + i * 4 + 3,none⟩ = some (.int .i64 (x.lv)):=(HB.out.cell (p:=⟨b,o + i * 4 + 3,none⟩) HBb.out).trans (HCX.out 3 _ rfl);replace hbr:b < w'.heap.size:=(by have h1:=HB.out.size;have h2:=HBb.out;omega)))
          go_ret
          exact ⟨by first | (rw [HE.out];done) | (rw [HE.out];rfl),HB.out⟩
      · have HE:Hid (ordP 4096 entE Ent.ky l = paE x.ch x.at_):=Lib.hid (by rw [← HS.out,ordQ_err hkl (by rw [← HX.out,show entE x = paE x.ch x.at_ from entE_pa hz0];exact hz0),← HX.out,show entE x = paE x.ch x.at_ from entE_pa hz0])
        have hne:((paE x.ch x.at_:Int) != 0) = true:=by simpa using hz0
        have hc0:=fun W => r15_par x.ch x.at_ W
        clear hz0
        generalize paE x.ch x.at_ = m at *
        have HC0:=Lib.hid hc0;clear hc0
        go_wp2_with (first | (with_reducible refine ((HC0.out _).mono ?_);rintro e w' ⟨rfl,hb⟩;replace HB:=Lib.hid (bch' HB.out hb);clear hb;replace x0:w'.cell? ⟨b,o + i * 4,none⟩ = some (.int .i64 (x.ch)):=(HB.out.cell (p:=⟨b,o + i * 4 + 0,none⟩) HBb.out).trans (HCX.out 0 _ rfl);replace x1:w'.cell? ⟨b,o + i * 4 + 1,none⟩ = some (.int .i64 (x.at_)):=(HB.out.cell (p:=⟨b,o + i * 4 + 1,none⟩) HBb.out).trans (HCX.out 1 _ rfl);replace x2:w'.cell? ⟨b,o + i * 4 + 2,none⟩ = some (.int .i64 (x.pa)):=(HB.out.cell (p:=⟨b,o + i * 4 + 2,none⟩) HBb.out).trans (HCX.out 2 _ rfl);replace x3:w'.cell? ⟨b,o + i * 4 + 3,none⟩ = some (.int .i64 (x.lv)):=(HB.out.cell (p:=⟨b,o + i * 4 + 3,none⟩) HBb.out).trans (HCX.out 3 _ rfl);replace hbr:b < w'.heap.size:=(by have h1:=HB.out.size;have h2:=HBb.out;omega)))
        go_ret
        exact ⟨by first | (rw [HE.out];done) | (rw [HE.out];rfl),HB.out⟩
end Go.Proofs.YtmjkenlifgmeeaaGreatDoor
