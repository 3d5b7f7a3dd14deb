/-
  
-/
import Derived.Test.YtmjkenlifgmeeaaGreatDoorQzSw
import Derived.Test.YtmjkenlifgmeeaaGreatDoorQzGl
import Derived.Test.YtmjkenlifgmeeaaGreatDoorQzQq
import Derived.Deep.DeepCutAuto
import Derived.Deep.Cut
import Derived.Laws.StructEq
import Derived.Test.YtmjkenlifgmeeaaGreatDoorQzSa
set_option linter.unusedVariables false
set_option linter.unusedSimpArgs false
namespace Go.Proofs.YtmjkenlifgmeeaaGreatDoor
open Go.RowKit Go.Shelf Lum
open Go.Lib (decDigits itoa)
attribute [local go_sem] bs_get bs_extract_end bs_extract_from bs_extract bs_append
end Go.Proofs.YtmjkenlifgmeeaaGreatDoor
namespace Lum
open Go Go.RowKit Go.Shelf
open Go.Lib (decDigits itoa)
end Lum
namespace Go.Proofs.YtmjkenlifgmeeaaGreatDoor
open Go.RowKit Go.Shelf Lum
open Go.Lib (decDigits itoa)
attribute [local go_sem] bs_get bs_extract_end bs_extract_from bs_extract bs_append
end Go.Proofs.YtmjkenlifgmeeaaGreatDoor
namespace Lum
open Go Go.RowKit Go.Shelf
open Go.Lib (decDigits itoa)
end Lum
namespace Go.Proofs.YtmjkenlifgmeeaaGreatDoor
open Go.RowKit Go.Shelf Lum
open Go.Lib (decDigits itoa)
attribute [local go_sem] bs_get bs_extract_end bs_extract_from bs_extract bs_append
end Go.Proofs.YtmjkenlifgmeeaaGreatDoor
set_option maxRecDepth 100000
set_option maxHeartbeats 8000000
namespace Go.Proofs.YtmjkenlifgmeeaaGreatDoor
open Go.RowKit Go.Shelf Lum
open Go.Lib (decDigits itoa)
attribute [local go_sem] bs_get bs_extract_end bs_extract_from bs_extract bs_append
theorem own_samount_ok (nu pr ch a t : Int) (inh : Bool) (gs : List Gn) (l : List Fdr) (gv lv : Value) (w : World) (hv : GnsAt w gv gs) (hl : FdsAt w lv l) (hs : sbE ⟨nu, pr, inh, gs⟩ = 0) (hf : facE l = 0) (hlen : ∀ i, i < l.length → (fdv l i).fr.length ≤ 60) (hp : parE ch a = 0) (env : Env w) :
    Calls Tryz.prog 21 #[.agg #[.int .i64 nu,.int .i64 pr,.bool (inh),gv],lv,.agg #[.int .i64 ch,.int .i64 a],.int .i64 t] w fun e w' => e = .returned (.tuple #[.string ⟨((amT nu inh gs l ch a t).1).toArray⟩,.bool ((amT nu inh gs l ch a t).2),.int .i64 0]) ∧ Below w.heap.size w w':=by
  obtain ⟨pg,cg,rfl⟩:∃ pg cg,gv = .slice pg gs.length cg:=by obtain ⟨pg,cg,e,-⟩:=hv;exact ⟨pg,cg,e⟩
  have ENV:=Lib.hid env;clear env
  have hok:SubOk ⟨nu,pr,inh,gs⟩:=subOk hs
  have fok:=facOk hf
  have hnew:=fun W (h1:GnsAt W (.slice pg gs.length cg) gs) (h2:FdsAt W lv l) (e:Env W) => own_snew nu pr inh gs l (.slice pg gs.length cg) lv W h1 h2 hs hf (fun i hi => Nat.le_trans (hlen i hi) (by omega)) e
  have hg:=fadG_fg (nu:=nu) (inh:=inh) fok
  have hx:=fadG_len (nu:=nu) (inh:=inh) hlen
  unfold fgE at hg
  have hlv:∀ (at_:Int) (mv:Bool) W,Env W → Calls Tryz.prog 41 #[.agg #[.int .i64 nu,.int .i64 pr,.bool (inh),(.slice pg gs.length cg),.int .i64 ((fadG nu inh l).su),.string ⟨((fadG nu inh l).fr).toArray⟩,.int .i64 ((fadG nu inh l).tz),.int .i64 ((fadG nu inh l).st),.int .i64 ((fadG nu inh l).ti),.int .i64 ((fadG nu inh l).stp),.int .i64 at_,.bool (mv)],.int .i64 t] W fun e w' => e = .returned (.tuple #[.string ⟨(showR (lvlQ nu inh l t)).toArray⟩,.int .i64 0]) ∧ Below W.heap.size W w':=fun at_ mv W e => own_slevel nu pr inh (.slice pg gs.length cg) _ _ _ _ _ at_ t _ mv W hg (by omega) e
  clear hg hx
  have hpa:=fun W => own_sparam ch a W
  rw [hp] at hpa
  have hga:=fun (at_:Int) (mv:Bool) W (h:GnsAt W (.slice pg gs.length cg) gs) => own_sgain nu pr inh gs (.slice pg gs.length cg) (fadG nu inh l).su (fadG nu inh l).tz (fadG nu inh l).st (fadG nu inh l).ti (fadG nu inh l).stp at_ ch a (fadG nu inh l).fr mv W h hok.few hok.par hok.bef hp
  have fl:Fits 182 (lvlQ nu inh l t):=fadL_fits t (fadG_fg fok) (fadG_len hlen)
  cases hgn:gnG gs ch a with
  | none =>
    rw [hgn] at hga
    simp only [Option.getD_none,Option.isSome_none] at hga
    rw [amT_none hgn]
    have hal:=((Below.refl w.heap.size w).alloc (Nat.le_refl _) (.cells #[.int .i64 nu,.int .i64 pr,.bool (inh),(.slice pg gs.length cg)] 63)).alloc (by simp) (.cells #[.int .i64 ch,.int .i64 a] 34)
    have HV:=Lib.hid (GnsAt.kept hv hal)
    have HL:=Lib.hid (FdsAt.kept hl hal)
    have HB:=Lib.hid hal;clear hal
    have HK:=Lib.hid ((Blk.new w 63 #[.int .i64 nu,.int .i64 pr,.bool (inh),(.slice pg gs.length cg)]).alloc (.cells #[.int .i64 ch,.int .i64 a] 34))
    have hR:=Blk.new (w.alloc (.cells #[.int .i64 nu,.int .i64 pr,.bool (inh),(.slice pg gs.length cg)] 63)) 34 #[.int .i64 ch,.int .i64 a]
    rw [World.size_alloc] at hR
    have HP:=Lib.hid hR;clear hR
    obtain ⟨k0,k1,k2,k3,kf0,kf1,kf2,kf3⟩:=HK.out.c4
    obtain ⟨p0,p1,pf0,pf1⟩:=HP.out.c2
    clear hs hf hv hl hlen fok fl hok hp
    generalize showR (lvlQ nu inh l t) = tl at *
    have HPA:=Lib.hid hpa;clear hpa
    have HLV:=Lib.hid hlv;clear hlv
    have HGA:=Lib.hid hga;clear hga
    have HNEW:=Lib.hid hnew;clear hnew
    go_enter Tryz.func21,Tryz.ntmps21
    go_wp2_with fail
    refine ((HNEW.out _ HV.out HL.out (ENV.out.below HB.out)).mono ?_)
    rintro e w2 ⟨i,-,rfl,hb⟩
    generalize decide (i < l.length ∧ (fdv l i).su - nu = 0) = mv at *
    have hal:=(Below.refl w2.heap.size w2).alloc (Nat.le_refl _) (.cells #[.int .i64 nu,.int .i64 pr,.bool (inh),(.slice pg gs.length cg),.int .i64 ((fadG nu inh l).su),.string ⟨((fadG nu inh l).fr).toArray⟩,.int .i64 ((fadG nu inh l).tz),.int .i64 ((fadG nu inh l).st),.int .i64 ((fadG nu inh l).ti),.int .i64 ((fadG nu inh l).stp),.int .i64 ((i:Int)),.bool (mv)] 97)
    replace HK:=Lib.hid ((HK.out.keep hb).keep hal)
    replace HP:=Lib.hid ((HP.out.keep hb).keep hal)
    replace HV:=Lib.hid (GnsAt.kept (GnsAt.kept HV.out hb) hal)
    replace HL:=Lib.hid (FdsAt.kept (FdsAt.kept HL.out hb) hal)
    replace HB:=Lib.hid (bch' (bch' HB.out hb) hal)
    clear hb hal HNEW
    clear k0 k1 k2 k3 kf0 kf1 kf2 kf3;clear p0 p1 pf0 pf1
    obtain ⟨k0,k1,k2,k3,kf0,kf1,kf2,kf3⟩:=HK.out.c4
    obtain ⟨p0,p1,pf0,pf1⟩:=HP.out.c2
    have HX:=Lib.hid (Blk.new w2 97 #[.int .i64 nu,.int .i64 pr,.bool (inh),(.slice pg gs.length cg),.int .i64 ((fadG nu inh l).su),.string ⟨((fadG nu inh l).fr).toArray⟩,.int .i64 ((fadG nu inh l).tz),.int .i64 ((fadG nu inh l).st),.int .i64 ((fadG nu inh l).ti),.int .i64 ((fadG nu inh l).stp),.int .i64 ((i:Int)),.bool (mv)])
    obtain ⟨x0,x1,x2,x3,x4,x5,x6,x7,x8,x9,x10,x11,xf0,xf1,xf2,xf3,xf4,xf5,xf6,xf7,xf8,xf9,xf10,xf11⟩:=HX.out.c12
    go_wp2_with (first | (with_reducible refine ((HPA.out _).mono ?_);rintro e w' ⟨rfl,hb⟩;replace HK:=Lib.hid (HK.out.keep hb);clear k0 k1 k2 k3 kf0 kf1 kf2 kf3;replace HP:=Lib.hid (HP.out.keep hb);clear p0 p1 pf0 pf1;replace HX:=Lib.hid (HX.out.keep hb);clear x0 x1 x2 x3 x4 x5 x6 x7 x8 x9 x10 x11 xf0 xf1 xf2 xf3 xf4 xf5 xf6 xf7 xf8 xf9 xf10 xf11;replace HV:=Lib.hid (GnsAt.kept HV.out hb);replace HL:=Lib.hid (FdsAt.kept HL.out hb);replace HB:=Lib.hid (bch' HB.out hb);clear hb;obtain ⟨k0,k1,k2,k3,kf0,kf1,kf2,kf3⟩:=HK.out.c4;obtain ⟨p0,p1,pf0,pf1⟩:=HP.out.c2;obtain ⟨x0,x1,x2,x3,x4,x5,x6,x7,x8,x9,x10,x11,xf0,xf1,xf2,xf3,xf4,xf5,xf6,xf7,xf8,xf9,xf10,xf11⟩:=HX.out.c12) | (with_reducible refine ((HLV.out _ _ _ (ENV.out.below HB.out)).mono ?_);rintro e w' ⟨rfl,hb⟩;replace HK:=Lib.hid (HK.out.keep hb);clear k0 k1 k2 k3 kf0 kf1 kf2 kf3;replace HP:=Lib.hid (HP.out.keep hb);clear p0 p1 pf0 pf1;replace HX:=Lib.hid (HX.out.keep hb);clear x0 x1 x2 x3 x4 x5 x6 x7 x8 x9 x10 x11 xf0 xf1 xf2 xf3 xf4 xf5 xf6 xf7 xf8 xf9 xf10 xf11;replace HV:=Lib.hid (GnsAt.kept HV.out hb);replace HL:=Lib.hid (FdsAt.kept HL.out hb);replace HB:=Lib.hid (bch' HB.out hb);clear hb;obtain ⟨k0,k1,k2,k3,kf0,kf1,kf2,kf3⟩:=HK.out.c4;obtain ⟨p0,p1,pf0,pf1⟩:=HP.out.c2;obtain ⟨x0,x1,x2,x3,x4,x5,x6,x7,x8,x9,x10,x11,xf0,xf1,xf2,xf3,xf4,xf5,xf6,xf7,xf8,xf9,xf10,xf11⟩:=HX.out.c12) | (with_reducible refine ((HGA.out _ _ _ HV.out).mono ?_);rintro e w' ⟨rfl,hb⟩;replace HK:=Lib.hid (HK.out.keep hb);clear k0 k1 k2 k3 kf0 kf1 kf2 kf3;replace HP:=Lib.hid (HP.out.keep hb);clear p0 p1 pf0 pf1;replace HX:=Lib.hid (HX.out.keep hb);clear x0 x1 x2 x3 x4 x5 x6 x7 x8 x9 x10 x11 xf0 xf1 xf2 xf3 xf4 xf5 xf6 xf7 xf8 xf9 xf10 xf11;replace HV:=Lib.hid (GnsAt.kept HV.out hb);replace HL:=Lib.hid (FdsAt.kept HL.out hb);replace HB:=Lib.hid (bch' HB.out hb);clear hb;obtain ⟨k0,k1,k2,k3,kf0,kf1,kf2,kf3⟩:=HK.out.c4;obtain ⟨p0,p1,pf0,pf1⟩:=HP.out.c2;obtain ⟨x0,x1,x2,x3,x4,x5,x6,x7,x8,x9,x10,x11,xf0,xf1,xf2,xf3,xf4,xf5,xf6,xf7,xf8,xf9,xf10,xf11⟩:=HX.out.c12))
    go_ret3
    exact ⟨rfl,HB.out⟩
  | some g =>
    rw [hgn] at hga
    simp only [Option.getD_some,Option.isSome_some] at hga
    cases inh
    · by_cases hz:lvlQ nu false l t = 0
      · rw [amT_zero hgn (.inr hz)]
        rw [hz,showR_zero] at hlv
        clear hz
        have hal:=((Below.refl w.heap.size w).alloc (Nat.le_refl _) (.cells #[.int .i64 nu,.int .i64 pr,.bool false,(.slice pg gs.length cg)] 63)).alloc (by simp) (.cells #[.int .i64 ch,.int .i64 a] 34)
        have HV:=Lib.hid (GnsAt.kept hv hal)
        have HL:=Lib.hid (FdsAt.kept hl hal)
        have HB:=Lib.hid hal;clear hal
        have HK:=Lib.hid ((Blk.new w 63 #[.int .i64 nu,.int .i64 pr,.bool false,(.slice pg gs.length cg)]).alloc (.cells #[.int .i64 ch,.int .i64 a] 34))
        have hR:=Blk.new (w.alloc (.cells #[.int .i64 nu,.int .i64 pr,.bool false,(.slice pg gs.length cg)] 63)) 34 #[.int .i64 ch,.int .i64 a]
        rw [World.size_alloc] at hR
        have HP:=Lib.hid hR;clear hR
        obtain ⟨k0,k1,k2,k3,kf0,kf1,kf2,kf3⟩:=HK.out.c4
        obtain ⟨p0,p1,pf0,pf1⟩:=HP.out.c2
        clear hs hf hv hl hlen fok fl hok hp
        have HPA:=Lib.hid hpa;clear hpa
        have HLV:=Lib.hid hlv;clear hlv
        have HGA:=Lib.hid hga;clear hga
        have HNEW:=Lib.hid hnew;clear hnew
        go_enter Tryz.func21,Tryz.ntmps21
        go_wp2_with fail
        refine ((HNEW.out _ HV.out HL.out (ENV.out.below HB.out)).mono ?_)
        rintro e w2 ⟨i,-,rfl,hb⟩
        generalize decide (i < l.length ∧ (fdv l i).su - nu = 0) = mv at *
        have hal:=(Below.refl w2.heap.size w2).alloc (Nat.le_refl _) (.cells #[.int .i64 nu,.int .i64 pr,.bool (false),(.slice pg gs.length cg),.int .i64 ((fadG nu false l).su),.string ⟨((fadG nu false l).fr).toArray⟩,.int .i64 ((fadG nu false l).tz),.int .i64 ((fadG nu false l).st),.int .i64 ((fadG nu false l).ti),.int .i64 ((fadG nu false l).stp),.int .i64 ((i:Int)),.bool (mv)] 97)
        replace HK:=Lib.hid ((HK.out.keep hb).keep hal)
        replace HP:=Lib.hid ((HP.out.keep hb).keep hal)
        replace HV:=Lib.hid (GnsAt.kept (GnsAt.kept HV.out hb) hal)
        replace HL:=Lib.hid (FdsAt.kept (FdsAt.kept HL.out hb) hal)
        replace HB:=Lib.hid (bch' (bch' HB.out hb) hal)
        clear hb hal HNEW
        clear k0 k1 k2 k3 kf0 kf1 kf2 kf3;clear p0 p1 pf0 pf1
        obtain ⟨k0,k1,k2,k3,kf0,kf1,kf2,kf3⟩:=HK.out.c4
        obtain ⟨p0,p1,pf0,pf1⟩:=HP.out.c2
        have HX:=Lib.hid (Blk.new w2 97 #[.int .i64 nu,.int .i64 pr,.bool (false),(.slice pg gs.length cg),.int .i64 ((fadG nu false l).su),.string ⟨((fadG nu false l).fr).toArray⟩,.int .i64 ((fadG nu false l).tz),.int .i64 ((fadG nu false l).st),.int .i64 ((fadG nu false l).ti),.int .i64 ((fadG nu false l).stp),.int .i64 ((i:Int)),.bool (mv)])
        obtain ⟨x0,x1,x2,x3,x4,x5,x6,x7,x8,x9,x10,x11,xf0,xf1,xf2,xf3,xf4,xf5,xf6,xf7,xf8,xf9,xf10,xf11⟩:=HX.out.c12
        go_wp2_with (first | (with_reducible refine ((HPA.out _).mono ?_);rintro e w' ⟨rfl,hb⟩;replace HK:=Lib.hid (HK.out.keep hb);clear k0 k1 k2 k3 kf0 kf1 kf2 kf3;replace HP:=Lib.hid (HP.out.keep hb);clear p0 p1 pf0 pf1;replace HX:=Lib.hid (HX.out.keep hb);clear x0 x1 x2 x3 x4 x5 x6 x7 x8 x9 x10 x11 xf0 xf1 xf2 xf3 xf4 xf5 xf6 xf7 xf8 xf9 xf10 xf11;replace HV:=Lib.hid (GnsAt.kept HV.out hb);replace HL:=Lib.hid (FdsAt.kept HL.out hb);replace HB:=Lib.hid (bch' HB.out hb);clear hb;obtain ⟨k0,k1,k2,k3,kf0,kf1,kf2,kf3⟩:=HK.out.c4;obtain ⟨p0,p1,pf0,pf1⟩:=HP.out.c2;obtain ⟨x0,x1,x2,x3,x4,x5,x6,x7,x8,x9,x10,x11,xf0,xf1,xf2,xf3,xf4,xf5,xf6,xf7,xf8,xf9,xf10,xf11⟩:=HX.out.c12) | (with_reducible refine ((HLV.out _ _ _ (ENV.out.below HB.out)).mono ?_);rintro e w' ⟨rfl,hb⟩;replace HK:=Lib.hid (HK.out.keep hb);clear k0 k1 k2 k3 kf0 kf1 kf2 kf3;replace HP:=Lib.hid (HP.out.keep hb);clear p0 p1 pf0 pf1;replace HX:=Lib.hid (HX.out.keep hb);clear x0 x1 x2 x3 x4 x5 x6 x7 x8 x9 x10 x11 xf0 xf1 xf2 xf3 xf4 xf5 xf6 xf7 xf8 xf9 xf10 xf11;replace HV:=Lib.hid (GnsAt.kept HV.out hb);replace HL:=Lib.hid (FdsAt.kept HL.out hb);replace HB:=Lib.hid (bch' HB.out hb);clear hb;obtain ⟨k0,k1,k2,k3,kf0,kf1,kf2,kf3⟩:=HK.out.c4;obtain ⟨p0,p1,pf0,pf1⟩:=HP.out.c2;obtain ⟨x0,x1,x2,x3,x4,x5,x6,x7,x8,x9,x10,x11,xf0,xf1,xf2,xf3,xf4,xf5,xf6,xf7,xf8,xf9,xf10,xf11⟩:=HX.out.c12) | (with_reducible refine ((HGA.out _ _ _ HV.out).mono ?_);rintro e w' ⟨rfl,hb⟩;replace HK:=Lib.hid (HK.out.keep hb);clear k0 k1 k2 k3 kf0 kf1 kf2 kf3;replace HP:=Lib.hid (HP.out.keep hb);clear p0 p1 pf0 pf1;replace HX:=Lib.hid (HX.out.keep hb);clear x0 x1 x2 x3 x4 x5 x6 x7 x8 x9 x10 x11 xf0 xf1 xf2 xf3 xf4 xf5 xf6 xf7 xf8 xf9 xf10 xf11;replace HV:=Lib.hid (GnsAt.kept HV.out hb);replace HL:=Lib.hid (FdsAt.kept HL.out hb);replace HB:=Lib.hid (bch' HB.out hb);clear hb;obtain ⟨k0,k1,k2,k3,kf0,kf1,kf2,kf3⟩:=HK.out.c4;obtain ⟨p0,p1,pf0,pf1⟩:=HP.out.c2;obtain ⟨x0,x1,x2,x3,x4,x5,x6,x7,x8,x9,x10,x11,xf0,xf1,xf2,xf3,xf4,xf5,xf6,xf7,xf8,xf9,xf10,xf11⟩:=HX.out.c12))
        go_ret3
        exact ⟨rfl,HB.out⟩
      · obtain ⟨g0,g1⟩:=gnG_range (s:=⟨nu,pr,false,gs⟩) hok hgn
        have hnz:¬ (false = true ∨ lvlQ nu false l t = 0):=fun h => h.elim (fun h => absurd h (by decide)) hz
        have htl:(showR (lvlQ nu false l t) == [48]) = false:=by rw [beq_eq_false_iff_ne];exact fun h => hz (show_zero.1 h)
        clear hz
        by_cases ha:a = 0
        · rw [amT_int hgn hnz ha]
          have ham:=fun (at_:Int) (mv:Bool) W (e:Env W) => own_samt_int nu pr (fadG nu false l).su (fadG nu false l).tz (fadG nu false l).st (fadG nu false l).ti (fadG nu false l).stp at_ ch a g false mv (.slice pg gs.length cg) (fadG nu false l).fr (lvlQ nu false l t) W g0 g1 (fl.mono (by omega)) ha e
          have hal:=((Below.refl w.heap.size w).alloc (Nat.le_refl _) (.cells #[.int .i64 nu,.int .i64 pr,.bool false,(.slice pg gs.length cg)] 63)).alloc (by simp) (.cells #[.int .i64 ch,.int .i64 a] 34)
          have HV:=Lib.hid (GnsAt.kept hv hal)
          have HL:=Lib.hid (FdsAt.kept hl hal)
          have HB:=Lib.hid hal;clear hal
          have HK:=Lib.hid ((Blk.new w 63 #[.int .i64 nu,.int .i64 pr,.bool false,(.slice pg gs.length cg)]).alloc (.cells #[.int .i64 ch,.int .i64 a] 34))
          have hR:=Blk.new (w.alloc (.cells #[.int .i64 nu,.int .i64 pr,.bool false,(.slice pg gs.length cg)] 63)) 34 #[.int .i64 ch,.int .i64 a]
          rw [World.size_alloc] at hR
          have HP:=Lib.hid hR;clear hR
          obtain ⟨k0,k1,k2,k3,kf0,kf1,kf2,kf3⟩:=HK.out.c4
          obtain ⟨p0,p1,pf0,pf1⟩:=HP.out.c2
          clear hs hf hv hl hlen fok fl hok hp
          clear g0 g1 hnz ha
          generalize showR (lvlQ nu false l t * Rat.divInt g 65535) = t2 at *
          generalize showR (lvlQ nu false l t) = tl at *
          have HPA:=Lib.hid hpa;clear hpa
          have HLV:=Lib.hid hlv;clear hlv
          have HGA:=Lib.hid hga;clear hga
          have HAM:=Lib.hid ham;clear ham
          have HNEW:=Lib.hid hnew;clear hnew
          go_enter Tryz.func21,Tryz.ntmps21
          go_wp2_with fail
          refine ((HNEW.out _ HV.out HL.out (ENV.out.below HB.out)).mono ?_)
          rintro e w2 ⟨i,-,rfl,hb⟩
          generalize decide (i < l.length ∧ (fdv l i).su - nu = 0) = mv at *
          have hal:=(Below.refl w2.heap.size w2).alloc (Nat.le_refl _) (.cells #[.int .i64 nu,.int .i64 pr,.bool (false),(.slice pg gs.length cg),.int .i64 ((fadG nu false l).su),.string ⟨((fadG nu false l).fr).toArray⟩,.int .i64 ((fadG nu false l).tz),.int .i64 ((fadG nu false l).st),.int .i64 ((fadG nu false l).ti),.int .i64 ((fadG nu false l).stp),.int .i64 ((i:Int)),.bool (mv)] 97)
          replace HK:=Lib.hid ((HK.out.keep hb).keep hal)
          replace HP:=Lib.hid ((HP.out.keep hb).keep hal)
          replace HV:=Lib.hid (GnsAt.kept (GnsAt.kept HV.out hb) hal)
          replace HL:=Lib.hid (FdsAt.kept (FdsAt.kept HL.out hb) hal)
          replace HB:=Lib.hid (bch' (bch' HB.out hb) hal)
          clear hb hal HNEW
          clear k0 k1 k2 k3 kf0 kf1 kf2 kf3;clear p0 p1 pf0 pf1
          obtain ⟨k0,k1,k2,k3,kf0,kf1,kf2,kf3⟩:=HK.out.c4
          obtain ⟨p0,p1,pf0,pf1⟩:=HP.out.c2
          have HX:=Lib.hid (Blk.new w2 97 #[.int .i64 nu,.int .i64 pr,.bool (false),(.slice pg gs.length cg),.int .i64 ((fadG nu false l).su),.string ⟨((fadG nu false l).fr).toArray⟩,.int .i64 ((fadG nu false l).tz),.int .i64 ((fadG nu false l).st),.int .i64 ((fadG nu false l).ti),.int .i64 ((fadG nu false l).stp),.int .i64 ((i:Int)),.bool (mv)])
          obtain ⟨x0,x1,x2,x3,x4,x5,x6,x7,x8,x9,x10,x11,xf0,xf1,xf2,xf3,xf4,xf5,xf6,xf7,xf8,xf9,xf10,xf11⟩:=HX.out.c12
          go_wp2_with (first | (with_reducible refine ((HPA.out _).mono ?_);rintro e w' ⟨rfl,hb⟩;replace HK:=Lib.hid (HK.out.keep hb);clear k0 k1 k2 k3 kf0 kf1 kf2 kf3;replace HP:=Lib.hid (HP.out.keep hb);clear p0 p1 pf0 pf1;replace HX:=Lib.hid (HX.out.keep hb);clear x0 x1 x2 x3 x4 x5 x6 x7 x8 x9 x10 x11 xf0 xf1 xf2 xf3 xf4 xf5 xf6 xf7 xf8 xf9 xf10 xf11;replace HV:=Lib.hid (GnsAt.kept HV.out hb);replace HL:=Lib.hid (FdsAt.kept HL.out hb);replace HB:=Lib.hid (bch' HB.out hb);clear hb;obtain ⟨k0,k1,k2,k3,kf0,kf1,kf2,kf3⟩:=HK.out.c4;obtain ⟨p0,p1,pf0,pf1⟩:=HP.out.c2;obtain ⟨x0,x1,x2,x3,x4,x5,x6,x7,x8,x9,x10,x11,xf0,xf1,xf2,xf3,xf4,xf5,xf6,xf7,xf8,xf9,xf10,xf11⟩:=HX.out.c12) | (with_reducible refine ((HLV.out _ _ _ (ENV.out.below HB.out)).mono ?_);rintro e w' ⟨rfl,hb⟩;replace HK:=Lib.hid (HK.out.keep hb);clear k0 k1 k2 k3 kf0 kf1 kf2 kf3;replace HP:=Lib.hid (HP.out.keep hb);clear p0 p1 pf0 pf1;replace HX:=Lib.hid (HX.out.keep hb);clear x0 x1 x2 x3 x4 x5 x6 x7 x8 x9 x10 x11 xf0 xf1 xf2 xf3 xf4 xf5 xf6 xf7 xf8 xf9 xf10 xf11;replace HV:=Lib.hid (GnsAt.kept HV.out hb);replace HL:=Lib.hid (FdsAt.kept HL.out hb);replace HB:=Lib.hid (bch' HB.out hb);clear hb;obtain ⟨k0,k1,k2,k3,kf0,kf1,kf2,kf3⟩:=HK.out.c4;obtain ⟨p0,p1,pf0,pf1⟩:=HP.out.c2;obtain ⟨x0,x1,x2,x3,x4,x5,x6,x7,x8,x9,x10,x11,xf0,xf1,xf2,xf3,xf4,xf5,xf6,xf7,xf8,xf9,xf10,xf11⟩:=HX.out.c12) | (with_reducible refine ((HGA.out _ _ _ HV.out).mono ?_);rintro e w' ⟨rfl,hb⟩;replace HK:=Lib.hid (HK.out.keep hb);clear k0 k1 k2 k3 kf0 kf1 kf2 kf3;replace HP:=Lib.hid (HP.out.keep hb);clear p0 p1 pf0 pf1;replace HX:=Lib.hid (HX.out.keep hb);clear x0 x1 x2 x3 x4 x5 x6 x7 x8 x9 x10 x11 xf0 xf1 xf2 xf3 xf4 xf5 xf6 xf7 xf8 xf9 xf10 xf11;replace HV:=Lib.hid (GnsAt.kept HV.out hb);replace HL:=Lib.hid (FdsAt.kept HL.out hb);replace HB:=Lib.hid (bch' HB.out hb);clear hb;obtain ⟨k0,k1,k2,k3,kf0,kf1,kf2,kf3⟩:=HK.out.c4;obtain ⟨p0,p1,pf0,pf1⟩:=HP.out.c2;obtain ⟨x0,x1,x2,x3,x4,x5,x6,x7,x8,x9,x10,x11,xf0,xf1,xf2,xf3,xf4,xf5,xf6,xf7,xf8,xf9,xf10,xf11⟩:=HX.out.c12) | (with_reducible refine ((HAM.out _ _ _ (ENV.out.below HB.out)).mono ?_);rintro e w' ⟨rfl,hb⟩;replace HK:=Lib.hid (HK.out.keep hb);clear k0 k1 k2 k3 kf0 kf1 kf2 kf3;replace HP:=Lib.hid (HP.out.keep hb);clear p0 p1 pf0 pf1;replace HX:=Lib.hid (HX.out.keep hb);clear x0 x1 x2 x3 x4 x5 x6 x7 x8 x9 x10 x11 xf0 xf1 xf2 xf3 xf4 xf5 xf6 xf7 xf8 xf9 xf10 xf11;replace HV:=Lib.hid (GnsAt.kept HV.out hb);replace HL:=Lib.hid (FdsAt.kept HL.out hb);replace HB:=Lib.hid (bch' HB.out hb);clear hb;obtain ⟨k0,k1,k2,k3,kf0,kf1,kf2,kf3⟩:=HK.out.c4;obtain ⟨p0,p1,pf0,pf1⟩:=HP.out.c2;obtain ⟨x0,x1,x2,x3,x4,x5,x6,x7,x8,x9,x10,x11,xf0,xf1,xf2,xf3,xf4,xf5,xf6,xf7,xf8,xf9,xf10,xf11⟩:=HX.out.c12))
          go_ret3
          exact ⟨rfl,HB.out⟩
        · rw [amT_other hgn hnz ha]
          have ham:=fun (at_:Int) (mv:Bool) W (e:Env W) => own_samt_other nu pr (fadG nu false l).su (fadG nu false l).tz (fadG nu false l).st (fadG nu false l).ti (fadG nu false l).stp at_ ch a g false mv (.slice pg gs.length cg) (fadG nu false l).fr (lvlQ nu false l t) W g0 g1 (fl.mono (by omega)) ha e
          have hal:=((Below.refl w.heap.size w).alloc (Nat.le_refl _) (.cells #[.int .i64 nu,.int .i64 pr,.bool false,(.slice pg gs.length cg)] 63)).alloc (by simp) (.cells #[.int .i64 ch,.int .i64 a] 34)
          have HV:=Lib.hid (GnsAt.kept hv hal)
          have HL:=Lib.hid (FdsAt.kept hl hal)
          have HB:=Lib.hid hal;clear hal
          have HK:=Lib.hid ((Blk.new w 63 #[.int .i64 nu,.int .i64 pr,.bool false,(.slice pg gs.length cg)]).alloc (.cells #[.int .i64 ch,.int .i64 a] 34))
          have hR:=Blk.new (w.alloc (.cells #[.int .i64 nu,.int .i64 pr,.bool false,(.slice pg gs.length cg)] 63)) 34 #[.int .i64 ch,.int .i64 a]
          rw [World.size_alloc] at hR
          have HP:=Lib.hid hR;clear hR
          obtain ⟨k0,k1,k2,k3,kf0,kf1,kf2,kf3⟩:=HK.out.c4
          obtain ⟨p0,p1,pf0,pf1⟩:=HP.out.c2
          clear hs hf hv hl hlen fok fl hok hp
          clear g0 g1 hnz ha
          generalize showR ((g:Int):Rat) = t2 at *
          generalize showR (lvlQ nu false l t) = tl at *
          have HPA:=Lib.hid hpa;clear hpa
          have HLV:=Lib.hid hlv;clear hlv
          have HGA:=Lib.hid hga;clear hga
          have HAM:=Lib.hid ham;clear ham
          have HNEW:=Lib.hid hnew;clear hnew
          go_enter Tryz.func21,Tryz.ntmps21
          go_wp2_with fail
          refine ((HNEW.out _ HV.out HL.out (ENV.out.below HB.out)).mono ?_)
          rintro e w2 ⟨i,-,rfl,hb⟩
          generalize decide (i < l.length ∧ (fdv l i).su - nu = 0) = mv at *
          have hal:=(Below.refl w2.heap.size w2).alloc (Nat.le_refl _) (.cells #[.int .i64 nu,.int .i64 pr,.bool (false),(.slice pg gs.length cg),.int .i64 ((fadG nu false l).su),.string ⟨((fadG nu false l).fr).toArray⟩,.int .i64 ((fadG nu false l).tz),.int .i64 ((fadG nu false l).st),.int .i64 ((fadG nu false l).ti),.int .i64 ((fadG nu false l).stp),.int .i64 ((i:Int)),.bool (mv)] 97)
          replace HK:=Lib.hid ((HK.out.keep hb).keep hal)
          replace HP:=Lib.hid ((HP.out.keep hb).keep hal)
          replace HV:=Lib.hid (GnsAt.kept (GnsAt.kept HV.out hb) hal)
          replace HL:=Lib.hid (FdsAt.kept (FdsAt.kept HL.out hb) hal)
          replace HB:=Lib.hid (bch' (bch' HB.out hb) hal)
          clear hb hal HNEW
          clear k0 k1 k2 k3 kf0 kf1 kf2 kf3;clear p0 p1 pf0 pf1
          obtain ⟨k0,k1,k2,k3,kf0,kf1,kf2,kf3⟩:=HK.out.c4
          obtain ⟨p0,p1,pf0,pf1⟩:=HP.out.c2
          have HX:=Lib.hid (Blk.new w2 97 #[.int .i64 nu,.int .i64 pr,.bool (false),(.slice pg gs.length cg),.int .i64 ((fadG nu false l).su),.string ⟨((fadG nu false l).fr).toArray⟩,.int .i64 ((fadG nu false l).tz),.int .i64 ((fadG nu false l).st),.int .i64 ((fadG nu false l).ti),.int .i64 ((fadG nu false l).stp),.int .i64 ((i:Int)),.bool (mv)])
          obtain ⟨x0,x1,x2,x3,x4,x5,x6,x7,x8,x9,x10,x11,xf0,xf1,xf2,xf3,xf4,xf5,xf6,xf7,xf8,xf9,xf10,xf11⟩:=HX.out.c12
          go_wp2_with (first | (with_reducible refine ((HPA.out _).mono ?_);rintro e w' ⟨rfl,hb⟩;replace HK:=Lib.hid (HK.out.keep hb);clear k0 k1 k2 k3 kf0 kf1 kf2 kf3;replace HP:=Lib.hid (HP.out.keep hb);clear p0 p1 pf0 pf1;replace HX:=Lib.hid (HX.out.keep hb);clear x0 x1 x2 x3 x4 x5 x6 x7 x8 x9 x10 x11 xf0 xf1 xf2 xf3 xf4 xf5 xf6 xf7 xf8 xf9 xf10 xf11;replace HV:=Lib.hid (GnsAt.kept HV.out hb);replace HL:=Lib.hid (FdsAt.kept HL.out hb);replace HB:=Lib.hid (bch' HB.out hb);clear hb;obtain ⟨k0,k1,k2,k3,kf0,kf1,kf2,kf3⟩:=HK.out.c4;obtain ⟨p0,p1,pf0,pf1⟩:=HP.out.c2;obtain ⟨x0,x1,x2,x3,x4,x5,x6,x7,x8,x9,x10,x11,xf0,xf1,xf2,xf3,xf4,xf5,xf6,xf7,xf8,xf9,xf10,xf11⟩:=HX.out.c12) | (with_reducible refine ((HLV.out _ _ _ (ENV.out.below HB.out)).mono ?_);rintro e w' ⟨rfl,hb⟩;replace HK:=Lib.hid (HK.out.keep hb);clear k0 k1 k2 k3 kf0 kf1 kf2 kf3;replace HP:=Lib.hid (HP.out.keep hb);clear p0 p1 pf0 pf1;replace HX:=Lib.hid (HX.out.keep hb);clear x0 x1 x2 x3 x4 x5 x6 x7 x8 x9 x10 x11 xf0 xf1 xf2 xf3 xf4 xf5 xf6 xf7 xf8 xf9 xf10 xf11;replace HV:=Lib.hid (GnsAt.kept HV.out hb);replace HL:=Lib.hid (FdsAt.kept HL.out hb);replace HB:=Lib.hid (bch' HB.out hb);clear hb;obtain ⟨k0,k1,k2,k3,kf0,kf1,kf2,kf3⟩:=HK.out.c4;obtain ⟨p0,p1,pf0,pf1⟩:=HP.out.c2;obtain ⟨x0,x1,x2,x3,x4,x5,x6,x7,x8,x9,x10,x11,xf0,xf1,xf2,xf3,xf4,xf5,xf6,xf7,xf8,xf9,xf10,xf11⟩:=HX.out.c12) | (with_reducible refine ((HGA.out _ _ _ HV.out).mono ?_);rintro e w' ⟨rfl,hb⟩;replace HK:=Lib.hid (HK.out.keep hb);clear k0 k1 k2 k3 kf0 kf1 kf2 kf3;replace HP:=Lib.hid (HP.out.keep hb);clear p0 p1 pf0 pf1;replace HX:=Lib.hid (HX.out.keep hb);clear x0 x1 x2 x3 x4 x5 x6 x7 x8 x9 x10 x11 xf0 xf1 xf2 xf3 xf4 xf5 xf6 xf7 xf8 xf9 xf10 xf11;replace HV:=Lib.hid (GnsAt.kept HV.out hb);replace HL:=Lib.hid (FdsAt.kept HL.out hb);replace HB:=Lib.hid (bch' HB.out hb);clear hb;obtain ⟨k0,k1,k2,k3,kf0,kf1,kf2,kf3⟩:=HK.out.c4;obtain ⟨p0,p1,pf0,pf1⟩:=HP.out.c2;obtain ⟨x0,x1,x2,x3,x4,x5,x6,x7,x8,x9,x10,x11,xf0,xf1,xf2,xf3,xf4,xf5,xf6,xf7,xf8,xf9,xf10,xf11⟩:=HX.out.c12) | (with_reducible refine ((HAM.out _ _ _ (ENV.out.below HB.out)).mono ?_);rintro e w' ⟨rfl,hb⟩;replace HK:=Lib.hid (HK.out.keep hb);clear k0 k1 k2 k3 kf0 kf1 kf2 kf3;replace HP:=Lib.hid (HP.out.keep hb);clear p0 p1 pf0 pf1;replace HX:=Lib.hid (HX.out.keep hb);clear x0 x1 x2 x3 x4 x5 x6 x7 x8 x9 x10 x11 xf0 xf1 xf2 xf3 xf4 xf5 xf6 xf7 xf8 xf9 xf10 xf11;replace HV:=Lib.hid (GnsAt.kept HV.out hb);replace HL:=Lib.hid (FdsAt.kept HL.out hb);replace HB:=Lib.hid (bch' HB.out hb);clear hb;obtain ⟨k0,k1,k2,k3,kf0,kf1,kf2,kf3⟩:=HK.out.c4;obtain ⟨p0,p1,pf0,pf1⟩:=HP.out.c2;obtain ⟨x0,x1,x2,x3,x4,x5,x6,x7,x8,x9,x10,x11,xf0,xf1,xf2,xf3,xf4,xf5,xf6,xf7,xf8,xf9,xf10,xf11⟩:=HX.out.c12))
          go_ret3
          exact ⟨rfl,HB.out⟩
    · rw [amT_zero hgn (.inl rfl)]
      have hal:=((Below.refl w.heap.size w).alloc (Nat.le_refl _) (.cells #[.int .i64 nu,.int .i64 pr,.bool true,(.slice pg gs.length cg)] 63)).alloc (by simp) (.cells #[.int .i64 ch,.int .i64 a] 34)
      have HV:=Lib.hid (GnsAt.kept hv hal)
      have HL:=Lib.hid (FdsAt.kept hl hal)
      have HB:=Lib.hid hal;clear hal
      have HK:=Lib.hid ((Blk.new w 63 #[.int .i64 nu,.int .i64 pr,.bool true,(.slice pg gs.length cg)]).alloc (.cells #[.int .i64 ch,.int .i64 a] 34))
      have hR:=Blk.new (w.alloc (.cells #[.int .i64 nu,.int .i64 pr,.bool true,(.slice pg gs.length cg)] 63)) 34 #[.int .i64 ch,.int .i64 a]
      rw [World.size_alloc] at hR
      have HP:=Lib.hid hR;clear hR
      obtain ⟨k0,k1,k2,k3,kf0,kf1,kf2,kf3⟩:=HK.out.c4
      obtain ⟨p0,p1,pf0,pf1⟩:=HP.out.c2
      clear hs hf hv hl hlen fok fl hok hp
      generalize showR (lvlQ nu true l t) = tl at *
      have HPA:=Lib.hid hpa;clear hpa
      have HLV:=Lib.hid hlv;clear hlv
      have HGA:=Lib.hid hga;clear hga
      have HNEW:=Lib.hid hnew;clear hnew
      go_enter Tryz.func21,Tryz.ntmps21
      go_wp2_with fail
      refine ((HNEW.out _ HV.out HL.out (ENV.out.below HB.out)).mono ?_)
      rintro e w2 ⟨i,-,rfl,hb⟩
      generalize decide (i < l.length ∧ (fdv l i).su - nu = 0) = mv at *
      have hal:=(Below.refl w2.heap.size w2).alloc (Nat.le_refl _) (.cells #[.int .i64 nu,.int .i64 pr,.bool (true),(.slice pg gs.length cg),.int .i64 ((fadG nu true l).su),.string ⟨((fadG nu true l).fr).toArray⟩,.int .i64 ((fadG nu true l).tz),.int .i64 ((fadG nu true l).st),.int .i64 ((fadG nu true l).ti),.int .i64 ((fadG nu true l).stp),.int .i64 ((i:Int)),.bool (mv)] 97)
      replace HK:=Lib.hid ((HK.out.keep hb).keep hal)
      replace HP:=Lib.hid ((HP.out.keep hb).keep hal)
      replace HV:=Lib.hid (GnsAt.kept (GnsAt.kept HV.out hb) hal)
      replace HL:=Lib.hid (FdsAt.kept (FdsAt.kept HL.out hb) hal)
      replace HB:=Lib.hid (bch' (bch' HB.out hb) hal)
      clear hb hal HNEW
      clear k0 k1 k2 k3 kf0 kf1 kf2 kf3;clear p0 p1 pf0 pf1
      obtain ⟨k0,k1,k2,k3,kf0,kf1,kf2,kf3⟩:=HK.out.c4
      obtain ⟨p0,p1,pf0,pf1⟩:=HP.out.c2
      have HX:=Lib.hid (Blk.new w2 97 #[.int .i64 nu,.int .i64 pr,.bool (true),(.slice pg gs.length cg),.int .i64 ((fadG nu true l).su),.string ⟨((fadG nu true l).fr).toArray⟩,.int .i64 ((fadG nu true l).tz),.int .i64 ((fadG nu true l).st),.int .i64 ((fadG nu true l).ti),.int .i64 ((fadG nu true l).stp),.int .i64 ((i:Int)),.bool (mv)])
      obtain ⟨x0,x1,x2,x3,x4,x5,x6,x7,x8,x9,x10,x11,xf0,xf1,xf2,xf3,xf4,xf5,xf6,xf7,xf8,xf9,xf10,xf11⟩:=HX.out.c12
      go_wp2_with (first | (with_reducible refine ((HPA.out _).mono ?_);rintro e w' ⟨rfl,hb⟩;replace HK:=Lib.hid (HK.out.keep hb);clear k0 k1 k2 k3 kf0 kf1 kf2 kf3;replace HP:=Lib.hid (HP.out.keep hb);clear p0 p1 pf0 pf1;replace HX:=Lib.hid (HX.out.keep hb);clear x0 x1 x2 x3 x4 x5 x6 x7 x8 x9 x10 x11 xf0 xf1 xf2 xf3 xf4 xf5 xf6 xf7 xf8 xf9 xf10 xf11;replace HV:=Lib.hid (GnsAt.kept HV.out hb);replace HL:=Lib.hid (FdsAt.kept HL.out hb);replace HB:=Lib.hid (bch' HB.out hb);clear hb;obtain ⟨k0,k1,k2,k3,kf0,kf1,kf2,kf3⟩:=HK.out.c4;obtain ⟨p0,p1,pf0,pf1⟩:=HP.out.c2;obtain ⟨x0,x1,x2,x3,x4,x5,x6,x7,x8,x9,x10,x11,xf0,xf1,xf2,xf3,xf4,xf5,xf6,xf7,xf8,xf9,xf10,xf11⟩:=HX.out.c12) | (with_reducible refine ((HLV.out _ _ _ (ENV.out.below HB.out)).mono ?_);rintro e w' ⟨rfl,hb⟩;replace HK:=Lib.hid (HK.out.keep hb);clear k0 k1 k2 k3 kf0 kf1 kf2 kf3;replace HP:=Lib.hid (HP.out.keep hb);clear p0 p1 pf0 pf1;replace HX:=Lib.hid (HX.out.keep hb);clear x0 x1 x2 x3 x4 x5 x6 x7 x8 x9 x10 x11 xf0 xf1 xf2 xf3 xf4 xf5 xf6 xf7 xf8 xf9 xf10 xf11;replace HV:=Lib.hid (GnsAt.kept HV.out hb);replace HL:=Lib.hid (FdsAt.kept HL.out hb);replace HB:=Lib.hid (bch' HB.out hb);clear hb;obtain ⟨k0,k1,k2,k3,kf0,kf1,kf2,kf3⟩:=HK.out.c4;obtain ⟨p0,p1,pf0,pf1⟩:=HP.out.c2;obtain ⟨x0,x1,x2,x3,x4,x5,x6,x7,x8,x9,x10,x11,xf0,xf1,xf2,xf3,xf4,xf5,xf6,xf7,xf8,xf9,xf10,xf11⟩:=HX.out.c12) | (with_reducible refine ((HGA.out _ _ _ HV.out).mono ?_);rintro e w' ⟨rfl,hb⟩;replace HK:=Lib.hid (HK.out.keep hb);clear k0 k1 k2 k3 kf0 kf1 kf2 kf3;replace HP:=Lib.hid (HP.out.keep hb);clear p0 p1 pf0 pf1;replace HX:=Lib.hid (HX.out.keep hb);clear x0 x1 x2 x3 x4 x5 x6 x7 x8 x9 x10 x11 xf0 xf1 xf2 xf3 xf4 xf5 xf6 xf7 xf8 xf9 xf10 xf11;replace HV:=Lib.hid (GnsAt.kept HV.out hb);replace HL:=Lib.hid (FdsAt.kept HL.out hb);replace HB:=Lib.hid (bch' HB.out hb);clear hb;obtain ⟨k0,k1,k2,k3,kf0,kf1,kf2,kf3⟩:=HK.out.c4;obtain ⟨p0,p1,pf0,pf1⟩:=HP.out.c2;obtain ⟨x0,x1,x2,x3,x4,x5,x6,x7,x8,x9,x10,x11,xf0,xf1,xf2,xf3,xf4,xf5,xf6,xf7,xf8,xf9,xf10,xf11⟩:=HX.out.c12))
      go_ret3
      exact ⟨rfl,HB.out⟩
end Go.Proofs.YtmjkenlifgmeeaaGreatDoor
