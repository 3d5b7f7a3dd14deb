/- A part of the proof of EffectAdds: contracts of functions, and plain facts. -/
import Derived.Test.YtbeojahilbglcaaGreatDoorQdWv1
import Derived.Test.YtbeojahilbglcaaGreatDoorQdWv2
import Derived.Test.YtbeojahilbglcaaGreatDoorQdYw
import Derived.Shelf.RegionOpen
import Derived.Stop.RegionWithIn
import Derived.Sort.CutIn
import Derived.Test.YtbeojahilbglcaaGreatDoorQdInR
import Derived.Deep.RegionHeld3
set_option maxRecDepth 100000
set_option maxHeartbeats 8000000
set_option linter.unusedVariables false
set_option linter.unusedSimpArgs false
namespace Lum
open Go Go.RowKit Go.Shelf
open Go.Lib (decDigits itoa)
def atT (l:List (Int × Int)) (x:Txt):Txt × Int:=if wvE l ≠ 0 then ([],wvE l) else if ratCheck x ≠ 0 then ([],ratCheck x) else (showR (hgtW l (valR x)),0)
def AtI (l:List (Int × Int)) (at_:Rat) (n0:Nat) (tR tE:TypeId) (pre:List (Fin (l.length - 1))) (W:World):Prop :=
  (∀ i ∈ pre,(pX l (i.1 + 1):Rat) ≤ at_) ∧ Blk W n0 tR #[.string ⟨(showR at_).toArray⟩] ∧ Blk W (n0 + 1) tR #[.string ⟨#[]⟩] ∧ Blk W (n0 + 1 + 1) tE #[.int .i64 0]
theorem atI_own (l:List (Int × Int)) (at_:Rat) (n0:Nat) (tR tE:TypeId):Own (AtI l at_ n0 tR tE):=by
  rintro s X Y row ⟨h0,h1,h2,h3⟩ hg hr
  exact ⟨h0,blk_own n0 tR (fun _:Unit => #[.string ⟨(showR at_).toArray⟩]) () X Y row h1 hg hr,blk_own (n0 + 1) tR (fun _:Unit => #[.string ⟨#[]⟩]) () X Y row h2 hg hr,blk_own (n0 + 1 + 1) tE (fun _:Unit => #[.int .i64 0]) () X Y row h3 hg hr⟩
def AtX (l:List (Int × Int)) (at_:Rat) (n0:Nat) (tR tE:TypeId) (cd:Code) (pre:List (Fin (l.length - 1))) (W:World):Prop :=
  cd = .ret ∧ ∃ ini last,pre = ini ++ [last] ∧ (∀ i ∈ ini,(pX l (i.1 + 1):Rat) ≤ at_) ∧ at_ < (pX l (last.1 + 1):Rat) ∧ Blk W (n0 + 1) tR #[.string ⟨(showR (segW l last.1 at_)).toArray⟩] ∧ Blk W (n0 + 1 + 1) tE #[.int .i64 0]
theorem atX_own (l:List (Int × Int)) (at_:Rat) (n0:Nat) (tR tE:TypeId) (cd:Code):Own (AtX l at_ n0 tR tE cd):=by
  rintro s X Y row ⟨h0,ini,last,h1,h2,h3,h4,h5⟩ hg hr
  exact ⟨h0,ini,last,h1,h2,h3,blk_own (n0 + 1) tR (fun _:Unit => #[.string ⟨(showR (segW l last.1 at_)).toArray⟩]) () X Y row h4 hg hr,blk_own (n0 + 1 + 1) tE (fun _:Unit => #[.int .i64 0]) () X Y row h5 hg hr⟩
def atFrame (sl:Value) (xt at_:Txt) (n0 Bs fn A B:Nat) (va vb:Value):Array Value :=
  #[sl, .string ⟨xt.toArray⟩, undef, .pointer (some ⟨n0, 0, none⟩), .pointer (some ⟨n0 + 1, 0, none⟩), .pointer (some ⟨n0 + 1 + 1, 0, none⟩), .int .i64 0, .int .i64 0, .int .i64 0, .pointer (some ⟨A, 0, none⟩), .pointer (some ⟨B, 0, none⟩), undef, undef, undef, undef, undef,
    sl,.int .i64 0,.int .i64 0,.bool false,undef,.string ⟨xt.toArray⟩,.int .i64 0,.int .i64 0,.bool false,undef,.tuple #[.string ⟨at_.toArray⟩,.int .i64 0],.string ⟨xt.toArray⟩,.tuple #[.string ⟨at_.toArray⟩,.int .i64 0],.string ⟨at_.toArray⟩,.int .i64 0,.int .i64 0,.bool false,undef,
    sl,.func (.func fn) #[] #[.pointer (some ⟨Bs,0,none⟩)],va,vb,undef,undef,undef,undef,undef,undef,undef,undef,undef,undef,undef,undef,undef,undef,undef,undef,undef,undef,undef,undef,undef,undef,undef,undef,undef,undef,undef,undef,undef,undef,undef,undef,undef,undef,undef,undef,undef,undef,undef,undef,undef,undef,undef,undef,undef,undef,undef,undef,undef,undef,undef,undef,undef,undef,undef,undef,undef]
theorem upF_mem {n:Nat} {i:Fin n}:i ∈ upF n n:=by unfold upF;rw [List.take_of_length_le (by simp)];exact List.mem_finRange i
theorem upF_mem_pred {n k:Nat} (h0:0 < k) (hk:k < n):(⟨k - 1,by omega⟩:Fin n) ∈ upF n k:=by
  have:=upF_succ n (k - 1) (by omega)
  rw [show k - 1 + 1 = k by omega] at this
  rw [this];simp
def AtA (l:List (Int × Int)) (sl:Value) (xt at_:Txt) (n0 Bs fn:Nat) (tP:TypeId) (x:Fin (l.length - 1)) (a:Act) (W:World):Prop :=
  ∃ A B,Bs < A ∧ Bs < B ∧ Blk W A tP #[.int .i64 (pX l x.1),.int .i64 (pY l x.1)] ∧ Blk W B tP #[.int .i64 (pX l (x.1 + 1)),.int .i64 (pY l (x.1 + 1))] ∧ a = { tmps:=atFrame sl xt at_ n0 Bs fn A B (ptV l x.1) (ptV l (x.1 + 1)),defers:=[] }
theorem atA_own (l:List (Int × Int)) (sl:Value) (xt at_:Txt) (n0 Bs fn:Nat) (tP:TypeId) (x:Fin (l.length - 1)) (a:Act):Own (fun (_:Unit) => AtA l sl xt at_ n0 Bs fn tP x a):=by
  rintro s X Y row ⟨A,B,h1,h2,h3,h4,h5⟩ hg hr
  exact ⟨A,B,h1,h2,blk_own A tP (fun _:Unit => #[.int .i64 (pX l x.1),.int .i64 (pY l x.1)]) () X Y row h3 hg hr,blk_own B tP (fun _:Unit => #[.int .i64 (pX l (x.1 + 1)),.int .i64 (pY l (x.1 + 1))]) () X Y row h4 hg hr,h5⟩
end Lum
namespace Go.Proofs.YtbeojahilbglcaaGreatDoor
open Go.RowKit Go.Shelf Lum
open Go.Lib (decDigits itoa)
attribute [local go_sem] Oper.semAt_some bs_get bs_extract_end bs_extract_from bs_extract bs_append
theorem own_at_ok (l : List (Int × Int)) (v : Value) (x : Rat) (w : World) (hv : PtsAt w v l) (hn : l.length ≤ 1000000000) (hz : wvE l = 0) (hx : Fits 400 x) (env : Env w) :
    Calls Tryz.prog 122 #[v,.string ⟨(showR x).toArray⟩] w fun e w' => e = .returned (.tuple #[.string ⟨(showR (hgtW l x)).toArray⟩,.int .i64 0]) ∧ Below w.heap.size w w':=by
  have wv:=wvE_zero hz
  have hlo:=wv.lo
  have hhi:=wv.hi
  have hk:=fun W (h:PtsAt W v l) => own_wcheck l v W h hn
  rw [hz] at hk
  have hr:=fun W (e:Env W) => own_rcheck (showR x) W (len_ok hx (by omega)) e
  rw [check_gen hx (by omega)] at hr
  have ht:=fun W (e:Env W) => own_turn x W hx e
  have hpl:=fits_place hx
  have hran:=place_range x
  obtain ⟨at_,hat⟩:∃ at_,at_ = place x:=⟨_,rfl⟩
  rw [← hat] at ht hpl hran
  have HAT:=Lib.hid hat;clear hat
  have hb0:=(((Below.refl w.heap.size w).alloc (Nat.le_refl _) (.cells #[.string ⟨(showR x).toArray⟩] 48)).alloc (by simp) (.cells #[.string ⟨#[]⟩] 48)).alloc (by simp;omega) (.cells #[.int .i64 0] 28)
  have h3:=((Blk.new w 48 #[.string ⟨(showR x).toArray⟩]).alloc (.cells #[.string ⟨#[]⟩] 48)).alloc (.cells #[.int .i64 0] 28)
  have h4:=(Blk.new (w.alloc (.cells #[.string ⟨(showR x).toArray⟩] 48)) 48 #[.string ⟨#[]⟩]).alloc (.cells #[.int .i64 0] 28)
  have h5:=Blk.new ((w.alloc (.cells #[.string ⟨(showR x).toArray⟩] 48)).alloc (.cells #[.string ⟨#[]⟩] 48)) 28 #[.int .i64 0]
  simp only [World.size_alloc] at h4 h5
  have hvv:=hv
  have hv0:=PtsAt.below hv ((((Below.refl w.heap.size w).alloc (Nat.le_refl _) (.cells #[.string ⟨(showR x).toArray⟩] 48)).alloc (by simp) (.cells #[.string ⟨#[]⟩] 48)).alloc (by simp;omega) (.cells #[.int .i64 0] 28))
  obtain ⟨p,c,rfl,hv2⟩:=hvv
  obtain ⟨b,o,rfl,hb,-⟩:=hv2 (fun h => by subst h;simp at hlo)
  clear hv2
  have HV0:=Lib.hid hv;clear hv
  have HV:=Lib.hid hv0;clear hv0
  have HB:=Lib.hid hb0;clear hb0
  have H3:=Lib.hid h3;clear h3
  have H4:=Lib.hid h4;clear h4
  have H5:=Lib.hid h5;clear h5
  obtain ⟨p3,q3⟩:=H3.out.c1
  have HK:=Lib.hid hk;clear hk
  have HR:=Lib.hid hr;clear hr
  have HT:=Lib.hid ht;clear ht
  have HX:=Lib.hid hx;clear hx
  have HPL:=Lib.hid hpl;clear hpl
  have HZ:=Lib.hid hz;clear hz
  have ENV:=Lib.hid env;clear env
  refine (callsIn_wide (n:=5)).1 ?_
  refine callsIn_of_wp_marks Tryz.func122 rfl trivial ?_ rfl
  simp only [Tryz.ntmps122,List.size_toArray,List.length_cons,List.length_nil,Nat.reduceAdd,Nat.reduceSub,Array.replicate_succ,Array.replicate_zero,List.push_toArray,List.append_toArray,List.nil_append,List.cons_append]
  gi_wp2_with (first | (refine ⟨trivial,?_⟩;gi_at_call 120;refine (callsIn_wide.2 (HK.out _ HV.out)).mono ?_;rintro e w' ⟨rfl,hb⟩;replace H3:=Lib.hid (H3.out.keep hb);replace H4:=Lib.hid (H4.out.keep hb);replace H5:=Lib.hid (H5.out.keep hb);replace HV:=Lib.hid (HV.out.below hb);replace HB:=Lib.hid (bch' HB.out hb);clear hb p3 q3;obtain ⟨p3,q3⟩:=H3.out.c1) | (refine ⟨trivial,?_⟩;gi_at_call 163;refine (callsIn_wide.2 (HR.out _ (ENV.out.below HB.out))).mono ?_;rintro e w' ⟨rfl,hb⟩;replace H3:=Lib.hid (H3.out.keep hb);replace H4:=Lib.hid (H4.out.keep hb);replace H5:=Lib.hid (H5.out.keep hb);replace HV:=Lib.hid (HV.out.below hb);replace HB:=Lib.hid (bch' HB.out hb);clear hb p3 q3;obtain ⟨p3,q3⟩:=H3.out.c1) | (refine ⟨trivial,?_⟩;gi_at_call 164;refine (callsIn_wide.2 (HT.out _ (ENV.out.below HB.out))).mono ?_;rintro e w' ⟨rfl,hb⟩;replace H3:=Lib.hid (H3.out.keep hb);replace H4:=Lib.hid (H4.out.keep hb);replace H5:=Lib.hid (H5.out.keep hb);replace HV:=Lib.hid (HV.out.below hb);replace HB:=Lib.hid (bch' HB.out hb);clear hb p3 q3;obtain ⟨p3,q3⟩:=H3.out.c1) | (refine ⟨trivial,?_⟩;gi_at_call 165;refine (pairs_in Fence.wide 4 trivial rfl _ _ _ _).mono ?_;rintro e w' ⟨rfl,rfl⟩))
  have hs1:w.heap.size + 3 ≤ w'.heap.size:=by have:=H5.out.lt;omega
  obtain ⟨W0,hW0⟩:∃ W0,W0 = (w'.setCell ⟨w.heap.size,0,none⟩ (.string ⟨(showR at_).toArray⟩)).alloc (.cells #[.slice (some ⟨b,o,none⟩) l.length c] 69):=⟨_,rfl⟩
  have h3:Blk W0 w.heap.size 48 #[.string ⟨(showR at_).toArray⟩]:=by rw [hW0];exact (H3.out.set_ 0 _).alloc _
  have h4:Blk W0 (w.heap.size + 1) 48 #[.string ⟨#[]⟩]:=by rw [hW0];exact (H4.out.far (by simp) _).alloc _
  have h5:Blk W0 (w.heap.size + 1 + 1) 28 #[.int .i64 0]:=by rw [hW0];exact (H5.out.far (by simp;omega) _).alloc _
  have hN:Boxed W0 w'.heap.size 69 (.slice (some ⟨b,o,none⟩) l.length c):=by rw [hW0];simpa using Boxed.new (w'.setCell ⟨w.heap.size,0,none⟩ (.string ⟨(showR at_).toArray⟩)) 69 (.slice (some ⟨b,o,none⟩) l.length c)
  have hB0:Below w.heap.size w W0:=by rw [hW0];exact (HB.out.setCell (p:=⟨w.heap.size,0,none⟩) (by simp) _).alloc (by simp;omega) _
  have hsz:W0.heap.size = w'.heap.size + 1:=by rw [hW0];simp
  rw [← hW0]
  clear hW0 p3 q3 H3 H4 H5 HK HR HT HB HV
  refine wpIn_rangeFunc_ownH (n := 5) rfl (by omega) (Kp := KeepB w.heap.size w'.heap.size) (gf := 197) (lb := #[.pointer (some ⟨w'.heap.size, 0, none⟩)]) rfl trivial (enters_of Tryz.func197 (by kernel_rfl) rfl)
    (pairs_stops Fence.wide 4 trivial rfl (by omega) w'.heap.size w.heap.size _ l (by omega) (fun h => by subst h;simp at hlo) W0 (by omega) hN w HV0.out rfl hB0) KeepB.t (KeepB.b (by omega) (by omega)) (Below.refl _ _) (fun _ => rfl)
    (fun pre W => AtI l at_ w.heap.size 48 28 pre W ∧ Below w.heap.size w W ∧ W0.heap.size ≤ W.heap.size)
    (fun cd pre W => AtX l at_ w.heap.size 48 28 cd pre W ∧ Below w.heap.size w W)
    (OwnFrom.and (Own.from (atI_own l at_ w.heap.size 48 28) _) (OwnFrom.and (ownFrom_below (Nat.le_refl _) (by omega)) ownFrom_size))
    (fun cd => OwnFrom.and (Own.from (atX_own l at_ w.heap.size 48 28 cd) _) (ownFrom_below (Nat.le_refl _) (by omega)))
    ⟨⟨by simp,h3,h4,h5⟩,hB0,Nat.le_refl _⟩
    (AtA l (.slice (some ⟨b,o,none⟩) l.length c) (showR x) (showR at_) w.heap.size w'.heap.size 197 124)
    (fun x' a' => Own.from (atA_own l _ _ _ _ _ _ 124 x' a') _) ?assign ?body ?done ?stop
  case assign =>
    rintro l' pre x' W K ⟨⟨h0,h3,h4,h5⟩,hB,hz⟩ hK
    have hs:=hB.size
    have hlt:=h5.lt
    have H0:=Lib.hid h0;clear h0
    unfold ptV
    gi_wp2
    exact hK _ _ (((KeepsOthers.alloc _ _).trans (KeepsOthers.alloc _ _)).from _) (((KeepB.refl _ _ W).alloc _ (by omega) (by omega)).alloc _ (by simp;omega) (by simp;omega)) ⟨⟨H0.out,(h3.alloc _).alloc _,(h4.alloc _).alloc _,(h5.alloc _).alloc _⟩,(hB.alloc (by omega) _).alloc (by simp;omega) _,by simp;omega⟩ ⟨W.heap.size,W.heap.size + 1,by omega,by omega,(Blk.new W _ _).alloc _,by simpa using Blk.new (W.alloc _) _ _,rfl⟩
  case body =>
    rintro l' pre x' a' W hl ⟨r,hr⟩ ⟨⟨h0,h3,h4,h5⟩,hB,hz⟩ ⟨A,B,hA,hBB,bA,bB,rfl⟩ hlt
    dsimp only [atFrame,ptV]
    have hx':=x'.2
    have H3:=Lib.hid h3;have H4:=Lib.hid h4;have H5:=Lib.hid h5;have HA:=Lib.hid bA;have HC:=Lib.hid bB;have HBW:=Lib.hid hB;have H0:=Lib.hid h0
    clear h3 h4 h5 bA bB hB h0
    have hX1:=wv.range (show x'.1 + 1 < l.length by omega)
    have hX0:=wv.range (show x'.1 < l.length by omega)
    have f1:=fits_i64 (pX l (x'.1 + 1)) (by omega) (by omega)
    have hw1:=fun W (e:Env W) => own_whole (pX l (x'.1 + 1)) W (by omega) (by omega) e
    have hcm:=fun W (e:Env W) => own_rcompare (showR at_) (showR ((pX l (x'.1 + 1):Int):Rat)) W e (len_ok HPL.out (by omega)) (len_ok f1 (by omega))
    rw [cmp_gen HPL.out f1 (by omega),showR_int] at hcm
    dsimp only at hcm
    have HBX:=Lib.hid ((Below.refl W.heap.size W).drew)
    have p3:=H3.out.c1.1
    have pb:=HC.out.c2.1
    have HW1:=Lib.hid hw1;clear hw1
    have HCM:=Lib.hid hcm;clear hcm
    have hmx:Tryz.prog.follows .mixedOrders = true:=by kernel_rfl
    obtain ⟨sg,hsg⟩:∃ sg,sg = sgn at_ ((pX l (x'.1 + 1):Int):Rat):=⟨_,rfl⟩
    rw [← hsg] at HCM
    have HSG:=Lib.hid hsg;clear hsg
    gi_upto_region 13 with (fail)
    gi_cut [11,12] from 38 (fun s11 s12 wx => s11 = .int .i64 sg ∧ s12 = .int .i64 0 ∧ Hid (Below W.heap.size W wx))
    case first =>
      gi_region_with_o (first | (refine ⟨trivial,?_⟩;gi_at_call 167;with_reducible refine (CallsIn.inRound l' (callsIn_wide.2 (HW1.out _ (ENV.out.below (bch' HBW.out HBX.out))))).mono ?_;rintro e w' ⟨rfl,hb⟩;replace HBX:=Lib.hid (bch' HBX.out hb);clear hb p3 pb;have p3:=(H3.out.keep HBX.out).c1.1;have pb:=(HC.out.keep HBX.out).c2.1) | (refine ⟨trivial,?_⟩;gi_at_call 166;with_reducible refine (CallsIn.inRound l' (callsIn_wide.2 (HCM.out _ (ENV.out.below (bch' HBW.out HBX.out))))).mono ?_;rintro e w' ⟨rfl,hb⟩;replace HBX:=Lib.hid (bch' HBX.out hb);clear hb p3 pb;have p3:=(H3.out.keep HBX.out).c1.1;have pb:=(HC.out.keep HBX.out).c2.1))
      all_goals (gi_wp2;gi_meet;exact ⟨rfl,rfl,HBX⟩)
    case rest =>
      obtain ⟨rfl,rfl,HBX1⟩:=hcut
      clear p3 pb HW1 HCM HBX
      have HBX:=HBX1;clear HBX1
      have p3:=(H3.out.keep HBX.out).c1.1;have pa:=(HA.out.keep HBX.out).c2.1
      by_cases hlt2:at_ < ((pX l (x'.1 + 1):Int):Rat)
      · have hs:sg < 0:=by rw [HSG.out];exact (sgn_lt _ _).2 hlt2
        have hs0:decide (0 ≤ sg) = false:=decide_eq_false (by omega)
        have HL2:=Lib.hid hlt2;clear hlt2
        have hss:=wv.s x'.1 (by omega)
        have hY0:=wv.h x'.1 (by omega)
        have hY1:=wv.h (x'.1 + 1) (by omega)
        have e1:IntKind.i64.wrap (pX l (x'.1 + 1) - pX l x'.1) = pX l (x'.1 + 1) - pX l x'.1:=IntWalk.i64_in _ (by omega)
        have f0:=fits_i64 (pX l x'.1) (by omega) (by omega)
        have fd:=fits_i64 (pX l (x'.1 + 1) - pX l x'.1) (by omega) (by omega)
        have g0:=fits_i64 (pY l x'.1) (by omega) (by omega)
        have g1:=fits_i64 (pY l (x'.1 + 1)) (by omega) (by omega)
        have ff:=fits_sub2 HPL.out f0
        have hdn:((pX l (x'.1 + 1) - pX l x'.1:Int):Rat) ≠ 0:=fun h => by have:=Rat.intCast_inj.1 (h.trans (show (0:Rat) = ((0:Int):Rat) from rfl));omega
        have fp:=fits_div2 ff fd hdn
        have hw0:=fun W (e:Env W) => own_whole (pX l x'.1) W (by omega) (by omega) e
        have hsu:=fun W (e:Env W) => own_rsub (showR at_) (showR ((pX l x'.1:Int):Rat)) W e (len_ok HPL.out (by omega)) (len_ok f0 (by omega))
        rw [sub_gen HPL.out f0 (by omega),showR_int] at hsu
        have hwd:=fun W (e:Env W) => own_whole (pX l (x'.1 + 1) - pX l x'.1) W (by omega) (by omega) e
        have hdi:=fun W (e:Env W) => own_rdiv (showR (at_ - ((pX l x'.1:Int):Rat))) (showR ((pX l (x'.1 + 1) - pX l x'.1:Int):Rat)) W e (len_ok ff (by omega)) (len_ok fd (by omega))
        rw [div_gen ff fd (by omega) hdn,showR_int] at hdi
        have hy0:=fun W (e:Env W) => own_whole (pY l x'.1) W (by omega) (by omega) e
        have hy1:=fun W (e:Env W) => own_whole (pY l (x'.1 + 1)) W (by omega) (by omega) e
        have hmi:=fun W (e:Env W) => own_mix (showR ((pY l x'.1:Int):Rat)) (showR ((pY l (x'.1 + 1):Int):Rat)) (showR ((at_ - ((pX l x'.1:Int):Rat)) / ((pX l (x'.1 + 1) - pX l x'.1:Int):Rat))) W (len_ok g0 (by omega)) (len_ok g1 (by omega)) (len_ok fp (by omega)) e
        rw [mix_gen g0 g1 fp (by omega),showR_int,showR_int] at hmi
        change ∀ W (e:Env W),Calls _ _ _ _ (fun e w' => e = .returned (.tuple #[.string ⟨(showR (segW l x'.1 at_)).toArray⟩,.int .i64 0]) ∧ _) at hmi
        obtain ⟨tr,htr⟩:∃ tr,tr = showR (segW l x'.1 at_):=⟨_,rfl⟩
        rw [← htr] at hmi
        have HTR:=Lib.hid htr;clear htr
        dsimp only at hsu hdi
        clear f0 fd g0 g1 ff fp hdn
        generalize showR ((at_ - ((pX l x'.1:Int):Rat)) / ((pX l (x'.1 + 1) - pX l x'.1:Int):Rat)) = tp at *
        generalize showR (at_ - ((pX l x'.1:Int):Rat)) = tf at *
        have HW0:=Lib.hid hw0;clear hw0
        have HSU:=Lib.hid hsu;clear hsu
        have HWD:=Lib.hid hwd;clear hwd
        have HDI:=Lib.hid hdi;clear hdi
        have HY0:=Lib.hid hy0;clear hy0
        have HY1:=Lib.hid hy1;clear hy1
        have HMI:=Lib.hid hmi;clear hmi
        gi_upto_region 15 with (fail)
        gi_cut [13,14] from 38 (fun s13 s14 wx => s13 = .string ⟨tf.toArray⟩ ∧ s14 = .int .i64 0 ∧ Hid (Below W.heap.size W wx))
        case first =>
          replace HBX:=Lib.hid (HBX.out.drew)
          gi_region_with_o (first | (refine ⟨trivial,?_⟩;gi_at_call 167;with_reducible refine (CallsIn.inRound l' (callsIn_wide.2 (HW0.out _ (ENV.out.below (bch' HBW.out HBX.out))))).mono ?_;rintro e w' ⟨rfl,hb⟩;replace HBX:=Lib.hid (bch' HBX.out hb);clear hb p3 pa;have p3:=(H3.out.keep HBX.out).c1.1;have pa:=(HA.out.keep HBX.out).c2.1) | (refine ⟨trivial,?_⟩;gi_at_call 168;with_reducible refine (CallsIn.inRound l' (callsIn_wide.2 (HSU.out _ (ENV.out.below (bch' HBW.out HBX.out))))).mono ?_;rintro e w' ⟨rfl,hb⟩;replace HBX:=Lib.hid (bch' HBX.out hb);clear hb p3 pa;have p3:=(H3.out.keep HBX.out).c1.1;have pa:=(HA.out.keep HBX.out).c2.1))
          all_goals (gi_wp2;gi_meet;exact ⟨rfl,rfl,HBX⟩)
        case rest =>
          obtain ⟨rfl,rfl,HBX1⟩:=hcut
          clear p3 pa HW0 HSU HBX
          have HBX:=HBX1;clear HBX1
          have pa:=(HA.out.keep HBX.out).c2.1;have pb:=(HC.out.keep HBX.out).c2.1
          gi_wp2_with (first | (refine ⟨trivial,?_⟩;gi_at_call 167;with_reducible refine (CallsIn.inRound l' (callsIn_wide.2 (HWD.out _ (ENV.out.below (bch' HBW.out HBX.out))))).mono ?_;rintro e w' ⟨rfl,hb⟩;replace HBX:=Lib.hid (bch' HBX.out hb);clear hb pa pb;have pa:=(HA.out.keep HBX.out).c2.1;have pb:=(HC.out.keep HBX.out).c2.1) | (refine ⟨trivial,?_⟩;gi_at_call 169;with_reducible refine (CallsIn.inRound l' (callsIn_wide.2 (HDI.out _ (ENV.out.below (bch' HBW.out HBX.out))))).mono ?_;rintro e w' ⟨rfl,hb⟩;replace HBX:=Lib.hid (bch' HBX.out hb);clear hb pa pb;have pa:=(HA.out.keep HBX.out).c2.1;have pb:=(HC.out.keep HBX.out).c2.1))
          clear pa pb e1 HWD HDI hs hs0 HSG
          replace HBX:=Lib.hid (HBX.out.drew)
          have hmk:∀ W',Below W.heap.size W W' → Below w.heap.size w W' ∧ W'.cell? ⟨A,1,none⟩ = some (.int .i64 (pY l x'.1)) ∧ W'.cell? ⟨B,1,none⟩ = some (.int .i64 (pY l (x'.1 + 1))):=fun W' h => ⟨bch' HBW.out h,(HA.out.keep h).c2.2.1,(HC.out.keep h).c2.2.1⟩
          have HMK:=Lib.hid hmk;clear hmk
          clear hX1 hX0 hss hY0 hY1 hran hlt
          refine wpIn_region_of_any hmx (by intro a w h;exact h) (by kernel_rfl) (wpAny_of_held (S:=(fun W' => Below w.heap.size w W' ∧ W'.cell? ⟨A,1,none⟩ = some (.int .i64 (pY l x'.1)) ∧ W'.cell? ⟨B,1,none⟩ = some (.int .i64 (pY l (x'.1 + 1))))) _ _ _ _ ?_)
          change wpAnyH _ _ _ _ _ _ _ _ (World.drew _)
          have hHeld:=HMK.out _ HBX.out
          refine wpAnyH_take (i:=0) (v:=?v0) rfl (by kernel_rfl) (by kernel_rfl) (by kernel_rfl) (fun _ _ _ h => h) (Or.inl ⟨by rfl,?hy0⟩) (by assumption) ?rest0
          case hy0 => ((intro w hSw;(try dsimp only at hSw);go_simp);try with_reducible rfl)
          try simp only [Act.put,List.setIfInBounds_toArray,List.set_cons_zero,List.set_cons_succ]
          refine wpAnyH_take (i:=1) (v:=?v1) rfl (by kernel_rfl) (by kernel_rfl) (by kernel_rfl) (fun _ _ _ h => h) (Or.inl ⟨by rfl,?hy1⟩) (by assumption) ?rest1
          case hy1 => ((intro w hSw;(try dsimp only at hSw);go_simp);try with_reducible rfl)
          try simp only [Act.put,List.setIfInBounds_toArray,List.set_cons_zero,List.set_cons_succ]
          refine wpAnyH_take (i:=3) (v:=?v3) rfl (by kernel_rfl) (by kernel_rfl) (by kernel_rfl) (fun _ _ _ h => h) (Or.inl ⟨by rfl,?hy3⟩) (by assumption) ?rest3
          case hy3 => ((intro w hSw;(try dsimp only at hSw);go_simp);try with_reducible rfl)
          try simp only [Act.put,List.setIfInBounds_toArray,List.set_cons_zero,List.set_cons_succ]
          refine wpAnyH_take (i:=4) (v:=?v4) rfl (by kernel_rfl) (by kernel_rfl) (by kernel_rfl) (fun _ _ _ h => h) (Or.inl ⟨by rfl,?hy4⟩) (by assumption) ?rest4
          case hy4 => ((intro w hSw;(try dsimp only at hSw);go_simp);try with_reducible rfl)
          try simp only [Act.put,List.setIfInBounds_toArray,List.set_cons_zero,List.set_cons_succ]
          refine wpAnyH_take (i:=6) (v:=?v6) rfl (by kernel_rfl) (by kernel_rfl) (by kernel_rfl) (fun _ _ _ h => h) (Or.inl ⟨by rfl,?hy6⟩) (by assumption) ?rest6
          case hy6 => ((intro w hSw;(try dsimp only at hSw);go_simp);try with_reducible rfl)
          try simp only [Act.put,List.setIfInBounds_toArray,List.set_cons_zero,List.set_cons_succ]
          refine wpAnyH_ready (rs:=[2]) (by kernel_rfl) (by simp) ?_
          refine AllReadyH.cons (o:=_) rfl (fun K hK => ?_) AllReadyH.nil
          try simp only [List.getElem_toArray,List.getElem_cons_succ,List.getElem_cons_zero]
          go_simp
          (go_at_call 167;refine (HY0.out _ (ENV.out.below (And.left (by assumption)))).mono ?_;rintro e wa ⟨rfl,hb⟩;replace HBX:=Lib.hid (bch' HBX.out hb);clear hb)
          go_simp
          refine hK.out _ _ ?_ (fun hHeld2 => ?_)
          · exact HMK.out _ HBX.out
          clear hHeld hK K
          have hHeld:=hHeld2;clear hHeld2
          try simp only [Act.put,List.setIfInBounds_toArray,List.set_cons_zero,List.set_cons_succ]
          refine wpAnyH_ready (rs:=[5]) (by kernel_rfl) (by simp) ?_
          refine AllReadyH.cons (o:=_) rfl (fun K hK => ?_) AllReadyH.nil
          try simp only [List.getElem_toArray,List.getElem_cons_succ,List.getElem_cons_zero]
          go_simp
          (go_at_call 167;refine (HY1.out _ (ENV.out.below (And.left (by assumption)))).mono ?_;rintro e wb ⟨rfl,hb⟩;replace HBX:=Lib.hid (bch' HBX.out hb);clear hb)
          go_simp
          refine hK.out _ _ ?_ (fun hHeld2 => ?_)
          · exact HMK.out _ HBX.out
          clear hHeld hK K
          have hHeld:=hHeld2;clear hHeld2
          try simp only [Act.put,List.setIfInBounds_toArray,List.set_cons_zero,List.set_cons_succ]
          refine wpAnyH_ready (rs:=[7]) (by kernel_rfl) (by simp) ?_
          refine AllReadyH.cons (o:=_) rfl (fun K hK => ?_) AllReadyH.nil
          try simp only [List.getElem_toArray,List.getElem_cons_succ,List.getElem_cons_zero]
          go_simp
          (go_at_call 170;refine (HMI.out _ (ENV.out.below (And.left (by assumption)))).mono ?_;rintro e wc ⟨rfl,hb⟩;replace HBX:=Lib.hid (bch' HBX.out hb);clear hb)
          go_simp
          refine hK.out _ _ ?_ (fun hHeld2 => ?_)
          · exact HMK.out _ HBX.out
          clear hHeld hK K
          have hHeld:=hHeld2;clear hHeld2
          try simp only [Act.put,List.setIfInBounds_toArray,List.set_cons_zero,List.set_cons_succ]
          refine wpAnyH_take (i:=8) (v:=?v8) rfl (by kernel_rfl) (by kernel_rfl) (by kernel_rfl) (fun _ _ _ h => h) (Or.inl ⟨by rfl,?hy8⟩) (by assumption) ?rest8
          case hy8 => ((intro w hSw;(try dsimp only at hSw);go_simp);try with_reducible rfl)
          try simp only [Act.put,List.setIfInBounds_toArray,List.set_cons_zero,List.set_cons_succ]
          refine wpAnyH_take (i:=9) (v:=?v9) rfl (by kernel_rfl) (by kernel_rfl) (by kernel_rfl) (fun _ _ _ h => h) (Or.inl ⟨by rfl,?hy9⟩) (by assumption) ?rest9
          case hy9 => ((intro w hSw;(try dsimp only at hSw);go_simp);try with_reducible rfl)
          try simp only [Act.put,List.setIfInBounds_toArray,List.set_cons_zero,List.set_cons_succ]
          obtain ⟨p4,q4⟩:=(H4.out.keep HBX.out).c1
          have hne:∀ i,i < 3 → A ≠ w.heap.size + i ∧ B ≠ w.heap.size + i:=fun i hi => by omega
          have hd4:Blk (wc.setCell ⟨w.heap.size + 1,0,none⟩ (.string ⟨tr.toArray⟩)) (w.heap.size + 1) 48 #[(.string ⟨tr.toArray⟩)]:=by simpa using (H4.out.keep HBX.out).set_ 0 (.string ⟨tr.toArray⟩)
          have hd5:Blk (wc.setCell ⟨w.heap.size + 1,0,none⟩ (.string ⟨tr.toArray⟩)) (w.heap.size + 1 + 1) 28 #[.int .i64 0]:=(H5.out.keep HBX.out).far (by simp) _
          have hdA:=(HA.out.keep HBX.out).far (p:=⟨w.heap.size + 1,0,none⟩) (hne 1 (by omega)).1 (.string ⟨tr.toArray⟩)
          have hdB:=(HC.out.keep HBX.out).far (p:=⟨w.heap.size + 1,0,none⟩) (hne 1 (by omega)).2 (.string ⟨tr.toArray⟩)
          have hdW:Below w.heap.size w (wc.setCell ⟨w.heap.size + 1,0,none⟩ (.string ⟨tr.toArray⟩)):=(bch' HBW.out HBX.out).setCell (p:=⟨w.heap.size + 1,0,none⟩) (by simp) _
          have hdK:KeepsFrom W0.heap.size W (wc.setCell ⟨w.heap.size + 1,0,none⟩ (.string ⟨tr.toArray⟩)):=(keepsFrom_below HBX.out).trans ((KeepsOthers.setCell _ _ _).from _)
          have HD4:=Lib.hid hd4;have HD5:=Lib.hid hd5;have HDA:=Lib.hid hdA;have HDB:=Lib.hid hdB;have HDW:=Lib.hid hdW;have HDK:=Lib.hid hdK;clear hd4 hd5 hdA hdB hdW hdK
          refine wpAnyH_ready (rs:=[10]) (by kernel_rfl) (by simp) ?_
          refine AllReadyH.cons (o:=_) rfl (fun K hK => ?_) AllReadyH.nil
          try simp only [List.getElem_toArray,List.getElem_cons_succ,List.getElem_cons_zero]
          go_simp
          refine hK.out _ _ ?_ (fun hHeld2 => ?_)
          · exact ⟨HDW.out,HDA.out.c2.2.1,HDB.out.c2.2.1⟩
          clear hHeld hK K
          have hHeld:=hHeld2;clear hHeld2
          try simp only [Act.put,List.setIfInBounds_toArray,List.set_cons_zero,List.set_cons_succ]
          generalize wc.setCell ⟨w.heap.size + 1,0,none⟩ (.string ⟨tr.toArray⟩) = wd at *
          clear p4 q4
          obtain ⟨p5,q5⟩:=HD5.out.c1
          refine wpAnyH_ready (rs:=[11]) (by kernel_rfl) (by simp) ?_
          refine AllReadyH.cons (o:=_) rfl (fun K hK => ?_) AllReadyH.nil
          try simp only [List.getElem_toArray,List.getElem_cons_succ,List.getElem_cons_zero]
          go_simp
          refine hK.out _ _ ?_ (fun hHeld2 => ?_)
          · exact ⟨HDW.out.setCell (p:=⟨w.heap.size + 1 + 1,0,none⟩) (by simp;omega) _,(HDA.out.far (p:=⟨w.heap.size + 1 + 1,0,none⟩) (hne 2 (by omega)).1 _).c2.2.1,(HDB.out.far (p:=⟨w.heap.size + 1 + 1,0,none⟩) (hne 2 (by omega)).2 _).c2.2.1⟩
          clear hHeld hK K
          have hHeld:=hHeld2;clear hHeld2
          try simp only [Act.put,List.setIfInBounds_toArray,List.set_cons_zero,List.set_cons_succ]
          refine wpAnyH_done (by kernel_rfl) ?_ _
          gi_wp2
          exact ⟨HDK.out.trans ((KeepsOthers.setCell _ _ _).from _),⟨rfl,pre,x',rfl,H0.out,HL2.out,by rw [← HTR.out];exact HD4.out.far (by simp) _,by simpa using HD5.out.set_ 0 (.int .i64 0)⟩,HDW.out.setCell (p:=⟨w.heap.size + 1 + 1,0,none⟩) (by simp;omega) _⟩
      · have hs:0 ≤ sg:=by have h:=mt (sgn_lt at_ ((pX l (x'.1 + 1):Int):Rat)).1 hlt2;rw [← HSG.out] at h;omega
        have hs0:decide (0 ≤ sg) = true:=decide_eq_true hs
        have HL2:=Lib.hid hlt2;clear hlt2
        gi_wp2
        exact ⟨keepsFrom_below HBX.out,(KeepB.refl _ _ W).below HBX.out (by omega) (by omega),⟨fun i hi => (List.mem_append.1 hi).elim (H0.out i) (fun e => by simp at e;subst e;exact Rat.not_lt.1 HL2.out),H3.out.keep HBX.out,H4.out.keep HBX.out,H5.out.keep HBX.out⟩,bch' HBW.out HBX.out,Nat.le_trans hz HBX.out.size⟩
  case done =>
    rintro D ys W hD rfl ⟨⟨h0,-,-,-⟩,-,-⟩ hK
    have h1:=h0 ⟨l.length - 1 - 1,by omega⟩ upF_mem
    rw [show l.length - 1 - 1 + 1 = l.length - 1 by omega,wv.x1] at h1
    exact absurd hran.2 (Rat.not_lt.2 h1)
  case stop =>
    rintro D cd pre W hD ⟨kk,hkl,rfl⟩ ⟨⟨rfl,ini,last,hpre,hini,hlast,h4,h5⟩,hB⟩ hK
    have hseg:segW l last.1 at_ = hgtW l x:=by
      have hll:=congrArg List.length hpre
      rw [upF_length _ _ hkl,List.length_append] at hll
      simp at hll
      subst hll
      obtain ⟨e1,e2⟩:=upF_snoc hpre.symm (by omega)
      have e3:upF (l.length - 1) last.1 = ini:=by rw [e2];exact e1.symm
      rw [HAT.out] at hini hlast hran ⊢
      refine (hgt_on wv x (k:=last.1) (by have:=last.2;omega) ?_ (Rat.le_of_lt hlast)).symm
      by_cases e0:last.1 = 0
      · rw [e0,wv.x0];exact hran.1
      · have:=hini ⟨last.1 - 1,by have:=last.2;omega⟩ (by
          have hm:=upF_mem_pred (n:=l.length - 1) (k:=last.1) (by omega) last.2
          rw [e3] at hm;exact hm)
        rw [show last.1 - 1 + 1 = last.1 by omega] at this
        exact this
    rw [hseg] at h4
    have r4:Blk (W.putObj D (.deferred none)) (w.heap.size + 1) 48 _:=(World.putObj_heap_other (by omega)).trans h4
    have r5:Blk (W.putObj D (.deferred none)) (w.heap.size + 1 + 1) 28 _:=(World.putObj_heap_other (by omega)).trans h5
    obtain ⟨p4,q4⟩:=r4.c1
    obtain ⟨p5,q5⟩:=r5.c1
    refine wpIn_ret ?_
    refine ⟨by simp,.inl ⟨_,_,rfl,run_takeDeferred hK,?_⟩⟩
    refine ⟨.tuple #[.string ⟨(showR (hgtW l x)).toArray⟩,.int .i64 0],by simp [results,Tryz.f122,go_sem,p4,q4,p5,q5],rfl,?_⟩
    exact hB.trans (belowK_b (w:=w) (Nat.le_refl _) W D _ _ (by omega) hK rfl rfl)
end Go.Proofs.YtbeojahilbglcaaGreatDoor
