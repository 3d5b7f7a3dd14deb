import Derived.Test.YtmjkenlifgmeeaaGreatDoorQzSa
import Derived.Test.YtmjkenlifgmeeaaGreatDoorQzSc
import Derived.Test.YtmjkenlifgmeeaaGreatDoorQzNf
import Derived.Outline
set_option maxRecDepth 100000
set_option maxHeartbeats 8000000
set_option linter.unusedVariables false
set_option linter.unusedSimpArgs false
namespace Lum
open Go Go.RowKit Go.Shelf
open Go.Lib (decDigits itoa)
theorem OwnR.blk {base:Nat} {e:TypeId} {W:World} {p:Option Addr} {c:Nat} {l:List Fdr} (h:OwnR encF 6 base e W p c l) (hn:l ≠ []):∃ g cur,p = some ⟨g,0,none⟩ ∧ base ≤ g ∧ Blk W g e cur ∧ l.length ≤ c ∧ c ≤ maxLen ∧ ∀ (i:Nat),i < l.length → W.cell? ⟨g,i * 6,none⟩ = some (.int .i64 (fdv l i).su) ∧ W.cell? ⟨g,i * 6 + 1,none⟩ = some (.string ⟨((fdv l i).fr).toArray⟩) ∧ W.cell? ⟨g,i * 6 + 2,none⟩ = some (.int .i64 (fdv l i).tz) ∧ W.cell? ⟨g,i * 6 + 3,none⟩ = some (.int .i64 (fdv l i).st) ∧ W.cell? ⟨g,i * 6 + 4,none⟩ = some (.int .i64 (fdv l i).ti) ∧ W.cell? ⟨g,i * 6 + 5,none⟩ = some (.int .i64 (fdv l i).stp):=by
  have hat:=h.at_ encF_len hn
  have hlen:l.length ≠ 0:=fun e => hn (List.length_eq_zero_iff.1 e)
  rcases h.2 with ⟨h2,h3⟩ | ⟨g,cap,cur,hv,hg,hh,h5,h6,-⟩
  · exact absurd h3 hlen
  · injection hv with hv1 hv2 hv3
    subst hv1 hv3
    refine ⟨g,cur,rfl,hg,hh,h5,h6,fun i hi => ?_⟩
    obtain ⟨b,hp,hb,hc⟩:=hat
    obtain rfl:g = b:=by have:=Option.some.inj hp;injection this
    have hx:=hc i hi
    rw [← fdv_at hi]
    simp only [Nat.zero_add] at hx
    exact ⟨hx 0 _ rfl,hx 1 _ rfl,hx 2 _ rfl,hx 3 _ rfl,hx 4 _ rfl,hx 5 _ rfl⟩
end Lum
namespace Go.Proofs.YtmjkenlifgmeeaaGreatDoor
open Go.RowKit Go.Shelf Lum
open Go.Lib (decDigits itoa)
attribute [local go_sem] bs_get bs_extract_end bs_extract_from bs_extract bs_append
theorem own_smove_new (nu pr t xo xi : Int) (inh : Bool) (gs : List Gn) (l : List Fdr) (gv lv : Value) (i : Nat) (w : World) (hv : GnsAt w gv gs) (hl : FdsAt w lv l) (hs : sbE ⟨nu, pr, inh, gs⟩ = 0) (hf : facE l = 0) (hlen : ∀ i, i < l.length → (fdv l i).fr.length ≤ 1000) (hm : mvIn t xo xi) (hb9 : Belongs (fun k => (fdv l k).su) l.length nu i false) (hM : ¬ l.length = 16) (env : Env w) :
    Calls Tryz.prog 19 #[.agg #[.int .i64 nu,.int .i64 pr,.bool (inh),gv],lv,.int .i64 t,.int .i64 xo,.int .i64 xi] w fun e w' => ∃ pp cc,e = .returned (.tuple #[.slice pp (insL l i false (mvF nu inh l t xo xi false)).length cc,.int .i64 0]) ∧ OwnR encF 6 w.heap.size 95 w' pp cc (insL l i false (mvF nu inh l t xo xi false)) ∧ Below w.heap.size w w':=by
  obtain ⟨pg,cg,rfl⟩:∃ pg cg,gv = .slice pg gs.length cg:=by obtain ⟨pg,cg,e,-⟩:=hv;exact ⟨pg,cg,e⟩
  have ENV:=Lib.hid env;clear env
  have hok:SubOk ⟨nu,pr,inh,gs⟩:=subOk hs
  have fok:=facOk hf
  have hnew:=fun W (h1:GnsAt W (.slice pg gs.length cg) gs) (h2:FdsAt W lv l) (e:Env W) => own_snew nu pr inh gs l (.slice pg gs.length cg) lv W h1 h2 hs hf hlen e
  have hg:=fadG_fg (nu:=nu) (inh:=inh) fok
  have hx:=fadG_lenK (nu:=nu) (inh:=inh) hlen
  unfold fgE at hg
  have hlv:∀ (at_:Int) (mv:Bool) W,Env W → Calls Tryz.prog 41 #[.agg #[.int .i64 nu,.int .i64 pr,.bool (inh),(.slice pg gs.length cg),.int .i64 ((fadG nu inh l).su),.string ⟨((fadG nu inh l).fr).toArray⟩,.int .i64 ((fadG nu inh l).tz),.int .i64 ((fadG nu inh l).st),.int .i64 ((fadG nu inh l).ti),.int .i64 ((fadG nu inh l).stp),.int .i64 at_,.bool (mv)],.int .i64 t] W fun e w' => e = .returned (.tuple #[.string ⟨(showR (lvlQ nu inh l t)).toArray⟩,.int .i64 0]) ∧ Below W.heap.size W w':=fun at_ mv W e => own_slevel nu pr inh (.slice pg gs.length cg) _ _ _ _ _ at_ t _ mv W hg (by omega) e
  have hgo:=fun W (e:Env W) => own_ggo_ok (fadG nu inh l).fr (fadG nu inh l).tz (fadG nu inh l).st (fadG nu inh l).ti t xo xi W (by omega) (by rw [goE_in hg hm]) e
  have hcl:=fun W (h:FdsAt W lv l) => own_fclone l lv W h (by have:=fok.few;omega)
  have hnw:∀ W,GnsAt W (.slice pg gs.length cg) gs → FdsAt W lv l → Env W → Calls Tryz.prog 40 #[.agg #[.int .i64 nu,.int .i64 pr,.bool (inh),(.slice pg gs.length cg)],lv] W fun e w' => e = .returned (.tuple #[.agg #[.int .i64 nu,.int .i64 pr,.bool (inh),(.slice pg gs.length cg),.int .i64 ((fadG nu inh l).su),.string ⟨((fadG nu inh l).fr).toArray⟩,.int .i64 ((fadG nu inh l).tz),.int .i64 ((fadG nu inh l).st),.int .i64 ((fadG nu inh l).ti),.int .i64 ((fadG nu inh l).stp),.int .i64 ((i:Int)),.bool (false)],.int .i64 0]) ∧ Below W.heap.size W w':=fun W a b c => (hnew W a b c).mono fun e w' ⟨i2,hh,he,hb'⟩ => by
    obtain ⟨rfl,h2⟩:=(halved_belongs fok.ord hh).uniq hb9
    rw [h2] at he
    exact ⟨he,hb'⟩
  clear hnew
  change ∀ W,Env W → Calls _ _ _ W (fun e w' => e = .returned (.tuple #[.agg #[.string ⟨(showR (lvlQ nu inh l t)).toArray⟩,.int .i64 xo,.int .i64 t,.int .i64 xi],.int .i64 0]) ∧ _) at hgo
  have hsu:=fadG_su nu inh l
  have HFEW:=Lib.hid fok.few
  have HM:=Lib.hid hM;clear hM
  have HIN:=Lib.hid hb9
  have hil:=hb9.le
  have HL0:=Lib.hid hl
  have HW:=Lib.hid (Nat.le_refl w.heap.size)
  have hal:=(Below.refl w.heap.size w).alloc (Nat.le_refl _) (.cells #[.int .i64 nu,.int .i64 pr,.bool (inh),(.slice pg gs.length cg)] 63)
  have HV:=Lib.hid (GnsAt.kept hv hal)
  have HL:=Lib.hid (FdsAt.kept hl hal)
  have HB:=Lib.hid hal;clear hal
  have HK:=Lib.hid (Blk.new w 63 #[.int .i64 nu,.int .i64 pr,.bool (inh),(.slice pg gs.length cg)])
  obtain ⟨k0,k1,k2,k3,kf0,kf1,kf2,kf3⟩:=HK.out.c4
  clear hs hf hv hl hlen hok fok hg hx hm hb9
  generalize htl:showR (lvlQ nu inh l t) = tl at *
  have HTL:=Lib.hid htl;clear htl
  have HSU:=Lib.hid hsu;clear hsu
  have HNW:=Lib.hid hnw;clear hnw
  have HLV:=Lib.hid hlv;clear hlv
  have HGO:=Lib.hid hgo;clear hgo
  have HCL:=Lib.hid hcl;clear hcl
  go_enter Tryz.func19,Tryz.ntmps19
  go_wp2_with fail
  refine ((HNW.out _ HV.out HL.out (ENV.out.below HB.out)).mono ?_)
  rintro e w2 ⟨rfl,hb⟩
  have hal:=(Below.refl w2.heap.size w2).alloc (Nat.le_refl _) (.cells #[.int .i64 nu,.int .i64 pr,.bool (inh),(.slice pg gs.length cg),.int .i64 ((fadG nu inh l).su),.string ⟨((fadG nu inh l).fr).toArray⟩,.int .i64 ((fadG nu inh l).tz),.int .i64 ((fadG nu inh l).st),.int .i64 ((fadG nu inh l).ti),.int .i64 ((fadG nu inh l).stp),.int .i64 ((i:Int)),.bool (false)] 97)
  replace HK:=Lib.hid ((HK.out.keep hb).keep hal)
  replace HV:=Lib.hid (GnsAt.kept (GnsAt.kept HV.out hb) hal)
  replace HL:=Lib.hid (FdsAt.kept (FdsAt.kept HL.out hb) hal)
  have HX0:Hid (w.heap.size + 1 ≤ w2.heap.size):=Lib.hid (by have:=(HK.out.lt);have h2:=hb.size;have h3:=HB.out.size;simp at *;omega)
  replace HB:=Lib.hid (bch' (bch' HB.out hb) hal)
  clear hb hal HNW
  clear k0 k1 k2 k3 kf0 kf1 kf2 kf3
  have HX:=Lib.hid (Blk.new w2 97 #[.int .i64 nu,.int .i64 pr,.bool (inh),(.slice pg gs.length cg),.int .i64 ((fadG nu inh l).su),.string ⟨((fadG nu inh l).fr).toArray⟩,.int .i64 ((fadG nu inh l).tz),.int .i64 ((fadG nu inh l).st),.int .i64 ((fadG nu inh l).ti),.int .i64 ((fadG nu inh l).stp),.int .i64 ((i:Int)),.bool (false)])
  obtain ⟨x0,x1,x2,x3,x4,x5,x6,x7,x8,x9,x10,x11,xf0,xf1,xf2,xf3,xf4,xf5,xf6,xf7,xf8,xf9,xf10,xf11⟩:=HX.out.c12
  go_upto_region 10 with (first | (with_reducible refine ((HLV.out _ _ _ (ENV.out.below HB.out)).mono ?_);rintro e w' ⟨rfl,hb⟩;replace HX:=Lib.hid (HX.out.keep hb);clear x0 x1 x2 x3 x4 x5 x6 x7 x8 x9 x10 x11 xf0 xf1 xf2 xf3 xf4 xf5 xf6 xf7 xf8 xf9 xf10 xf11;replace HV:=Lib.hid (GnsAt.kept HV.out hb);replace HL:=Lib.hid (FdsAt.kept HL.out hb);replace HB:=Lib.hid (bch' HB.out hb);clear hb;obtain ⟨x0,x1,x2,x3,x4,x5,x6,x7,x8,x9,x10,x11,xf0,xf1,xf2,xf3,xf4,xf5,xf6,xf7,xf8,xf9,xf10,xf11⟩:=HX.out.c12) | (with_reducible refine ((HGO.out _ (ENV.out.below HB.out)).mono ?_);rintro e w' ⟨rfl,hb⟩;replace HX:=Lib.hid (HX.out.keep hb);clear x0 x1 x2 x3 x4 x5 x6 x7 x8 x9 x10 x11 xf0 xf1 xf2 xf3 xf4 xf5 xf6 xf7 xf8 xf9 xf10 xf11;replace HV:=Lib.hid (GnsAt.kept HV.out hb);replace HL:=Lib.hid (FdsAt.kept HL.out hb);replace HB:=Lib.hid (bch' HB.out hb);clear hb;obtain ⟨x0,x1,x2,x3,x4,x5,x6,x7,x8,x9,x10,x11,xf0,xf1,xf2,xf3,xf4,xf5,xf6,xf7,xf8,xf9,xf10,xf11⟩:=HX.out.c12))
  have hal:=(Below.refl w'.heap.size w').alloc (Nat.le_refl _) (.cells #[.string ⟨(tl).toArray⟩,.int .i64 xo,.int .i64 t,.int .i64 xi] 93)
  have HG:=Lib.hid (Blk.new w' 93 #[.string ⟨(tl).toArray⟩,.int .i64 xo,.int .i64 t,.int .i64 xi])
  have hgx:w'.heap.size ≠ w2.heap.size:=by have:=HX.out.lt;omega
  replace HX:=Lib.hid (HX.out.keep hal)
  replace HB:=Lib.hid (bch' HB.out hal)
  clear hal HV HK HL
  clear x0 x1 x2 x3 x4 x5 x6 x7 x8 x9 x10 x11 xf0 xf1 xf2 xf3 xf4 xf5 xf6 xf7 xf8 xf9 xf10 xf11
  generalize w'.alloc (.cells #[.string ⟨(tl).toArray⟩,.int .i64 xo,.int .i64 t,.int .i64 xi] 93) = w5 at *
  generalize w'.heap.size = G at *
  obtain ⟨x0,x1,x2,x3,x4,x5,x6,x7,x8,x9,x10,x11,xf0,xf1,xf2,xf3,xf4,xf5,xf6,xf7,xf8,xf9,xf10,xf11⟩:=HX.out.c12
  obtain ⟨g0,g1,g2,g3,gf0,gf1,gf2,gf3⟩:=HG.out.c4
  have hle:w.heap.size ≤ w2.heap.size:=by have:=HX0.out;omega
  go_upto_region 12 with fail
  have HX2:Hid (Blk (w5.setCell ⟨w2.heap.size,9,none⟩ (.int .i64 t)) w2.heap.size 97 #[.int .i64 nu,.int .i64 pr,.bool (inh),(.slice pg gs.length cg),.int .i64 ((fadG nu inh l).su),.string ⟨((fadG nu inh l).fr).toArray⟩,.int .i64 ((fadG nu inh l).tz),.int .i64 ((fadG nu inh l).st),.int .i64 ((fadG nu inh l).ti),.int .i64 t,.int .i64 ((i:Int)),.bool (false)]):=Lib.hid (HX.out.set_ 9 (.int .i64 t))
  have HG2:=Lib.hid (HG.out.far (p:=⟨w2.heap.size,9,none⟩) hgx (.int .i64 t))
  have HB2:=Lib.hid (HB.out.setCell (p:=⟨w2.heap.size,9,none⟩) hle (.int .i64 t))
  clear x0 x1 x2 x3 x4 x5 x6 x7 x8 x9 x10 x11 xf0 xf1 xf2 xf3 xf4 xf5 xf6 xf7 xf8 xf9 xf10 xf11
  clear g0 g1 g2 g3 gf0 gf1 gf2 gf3
  clear HX HG HB
  generalize w5.setCell ⟨w2.heap.size,9,none⟩ (.int .i64 t) = w6 at *
  have HX:=HX2;have HG:=HG2;have HB:=HB2;clear HX2 HG2 HB2
  obtain ⟨x0,x1,x2,x3,x4,x5,x6,x7,x8,x9,x10,x11,xf0,xf1,xf2,xf3,xf4,xf5,xf6,xf7,xf8,xf9,xf10,xf11⟩:=HX.out.c12
  obtain ⟨g0,g1,g2,g3,gf0,gf1,gf2,gf3⟩:=HG.out.c4
  go_upto_region 13 with fail
  have HX2:Hid (Blk ((((w6.setCell ⟨w2.heap.size,5,none⟩ (.string ⟨(tl).toArray⟩)).setCell ⟨w2.heap.size,6,none⟩ (.int .i64 xo)).setCell ⟨w2.heap.size,7,none⟩ (.int .i64 t)).setCell ⟨w2.heap.size,8,none⟩ (.int .i64 xi)) w2.heap.size 97 #[.int .i64 nu,.int .i64 pr,.bool (inh),(.slice pg gs.length cg),.int .i64 ((fadG nu inh l).su),.string ⟨(tl).toArray⟩,.int .i64 xo,.int .i64 t,.int .i64 xi,.int .i64 t,.int .i64 ((i:Int)),.bool (false)]):=Lib.hid (HX.out.gl12 (.string ⟨(tl).toArray⟩) (.int .i64 xo) (.int .i64 t) (.int .i64 xi))
  have HB2:=Lib.hid ((((HB.out.setCell (p:=⟨w2.heap.size,5,none⟩) hle (.string ⟨(tl).toArray⟩)).setCell (p:=⟨w2.heap.size,6,none⟩) hle (.int .i64 xo)).setCell (p:=⟨w2.heap.size,7,none⟩) hle (.int .i64 t)).setCell (p:=⟨w2.heap.size,8,none⟩) hle (.int .i64 xi))
  clear x0 x1 x2 x3 x4 x5 x6 x7 x8 x9 x10 x11 xf0 xf1 xf2 xf3 xf4 xf5 xf6 xf7 xf8 xf9 xf10 xf11
  clear g0 g1 g2 g3 gf0 gf1 gf2 gf3
  clear HX HG HB
  generalize ((((w6.setCell ⟨w2.heap.size,5,none⟩ (.string ⟨(tl).toArray⟩)).setCell ⟨w2.heap.size,6,none⟩ (.int .i64 xo)).setCell ⟨w2.heap.size,7,none⟩ (.int .i64 t)).setCell ⟨w2.heap.size,8,none⟩ (.int .i64 xi)) = w7 at *
  have HX:=HX2;have HB:=HB2;clear HX2 HB2
  have HL:=Lib.hid (FdsAt.kept HL0.out HB.out)
  obtain ⟨x0,x1,x2,x3,x4,x5,x6,x7,x8,x9,x10,x11,xf0,xf1,xf2,xf3,xf4,xf5,xf6,xf7,xf8,xf9,xf10,xf11⟩:=HX.out.c12
  go_wp2_with fail
  refine ((HCL.out _ HL.out).mono ?_)
  rintro e w3 ⟨pp,cc,rfl,ho,hb⟩
  have HO:=Lib.hid ho;clear ho
  have HB7:Hid (w.heap.size ≤ w7.heap.size):=Lib.hid HB.out.size
  have HH:Hid (w7.heap.size ≤ w3.heap.size):=Lib.hid hb.size
  have HX7:Hid (w2.heap.size < w7.heap.size):=Lib.hid HX.out.lt
  replace HX:=Lib.hid (HX.out.keep hb)
  clear x0 x1 x2 x3 x4 x5 x6 x7 x8 x9 x10 x11 xf0 xf1 xf2 xf3 xf4 xf5 xf6 xf7 xf8 xf9 xf10 xf11
  replace HB:=Lib.hid (bch' HB.out hb)
  clear hb HCL
  obtain ⟨x0,x1,x2,x3,x4,x5,x6,x7,x8,x9,x10,x11,xf0,xf1,xf2,xf3,xf4,xf5,xf6,xf7,xf8,xf9,xf10,xf11⟩:=HX.out.c12
  have hq:((l.length:Int) == 16) = false:=by rw [beq_eq_false_iff_ne];have:=HM.out;omega
  have hlt:=HX.out.lt
  go_wp2_with fail
  have hal:=(Below.refl w3.heap.size w3).alloc (Nat.le_refl _) (.cells #[.int .i64 ((fadG nu inh l).su),.string ⟨(tl).toArray⟩,.int .i64 xo,.int .i64 t,.int .i64 xi,.int .i64 t] 95)
  refine ((own_finsert l _ (⟨(fadG nu inh l).su,tl,xo,t,xi,t⟩:Fdr) pp cc w7.heap.size w3.heap.size i (HO.out.keep hal) (Blk.new w3 95 _) (fun a ha => by have:=(HO.out.lt a ha).2;omega) hil (by have:=HFEW.out;omega) (by rw [World.size_alloc];have:=HH.out;omega)).mono ?_)
  rintro e w4 ⟨p1,c1,rfl,ho,hb⟩
  have HO2:=Lib.hid ho;clear ho
  have HB3:=Lib.hid ((HB.out.trans (hal.mono (Nat.le_trans HB7.out HH.out))).trans (hb.mono HB7.out))
  clear hal hb
  go_wp2_with fail
  go_ret2
  have hmv:mvF nu inh l t xo xi false = (⟨(fadG nu inh l).su,tl,xo,t,xi,t⟩:Fdr):=by rw [mvF_new,HTL.out]
  refine ⟨p1,c1,by first | (rw [insL_len_miss hil];done) | (rw [insL_len_miss hil];rfl),?_,HB3.out⟩
  rw [hmv]
  exact HO2.out.lower HB7.out
end Go.Proofs.YtmjkenlifgmeeaaGreatDoor
