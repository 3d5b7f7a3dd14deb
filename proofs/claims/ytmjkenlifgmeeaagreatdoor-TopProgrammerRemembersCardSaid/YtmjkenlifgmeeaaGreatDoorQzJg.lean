/-
  
-/
import Derived.Test.YtmjkenlifgmeeaaGreatDoorQzJc
import Derived.Test.YtmjkenlifgmeeaaGreatDoorQzJb
import Derived.BigRegion
set_option linter.unusedVariables false
set_option linter.unusedSimpArgs false
set_option maxRecDepth 100000
set_option maxHeartbeats 8000000
namespace Lum
open Go Go.RowKit Go.Shelf
open Go.Lib (decDigits itoa)
theorem glE_from {fr:Txt}:glE fr 0 0 0 = levE fr:=by
  by_cases h:levE fr = 0
  · rw [glE_in h (by omega),h]
  · exact glE_lev h
theorem glE_tim {t ti:Int}:glE ([48]:Txt) 0 t ti = if timB t ti then 0 else 2:=by
  have h0:levE ([48]:Txt) = 0:=by decide +kernel
  by_cases h:timB t ti
  · rw [if_pos h];exact glE_in h0 ⟨by omega,h⟩
  · rw [if_neg h];exact glE_out h0 (fun g => h g.2)
theorem ownR_capz {β:Type} {enc:β → List Value} {k base:Nat} {e:TypeId} {W:World} {p:Option Addr} {c:Nat} {l:List β} (h:OwnR enc k base e W p c l):p = none → c = 0:=by
  intro hp
  rcases h.2 with ⟨h1,-⟩ | ⟨g,cap,cur,h1,-⟩
  · injection h1 with _ _ h1
  · injection h1 with h1;rw [hp] at h1;cases h1
section
variable {α:Type} {key:α → Int × Int} {l:List α} {p:Int × Int}
theorem belP_uniq {i j:Nat} {a b:Bool} (h:BelP key l p i a) (g:BelP key l p j b):i = j ∧ a = b:=by
  have lem:∀ {i j:Nat} {a b:Bool},BelP key l p i a → BelP key l p j b → ¬ i < j:=by
    intro i j a b h g hij
    have hi:i < l.length:=Nat.lt_of_lt_of_le hij g.le
    have h1:=g.bef i hi hij
    cases a with
    | true => obtain ⟨_,h3⟩:=h.yes rfl;rw [h3,ltP_irr] at h1;cases h1
    | false => have h3:=h.no rfl i hi (Nat.le_refl _);rw [ltP_asym h1] at h3;cases h3
  have h1:=lem h g
  have h2:=lem g h
  obtain rfl:i = j:=by omega
  refine ⟨rfl,?_⟩
  cases a with
  | true =>
    cases b with
    | true => rfl
    | false => obtain ⟨h3,h4⟩:=h.yes rfl;exact absurd h4 (g.miss i h3)
  | false =>
    cases b with
    | false => rfl
    | true => obtain ⟨h3,h4⟩:=g.yes rfl;exact absurd h4 (h.miss i h3)
theorem belP_any {i:Nat} {a:Bool} (h:BelP key l p i a):l.any (fun y => decide (p = key y)) = a:=by
  cases a with
  | true => obtain ⟨h1,h2⟩:=h.yes rfl;exact List.any_eq_true.2 ⟨_,List.getElem_mem h1,decide_eq_true h2.symm⟩
  | false => exact List.any_eq_false.2 fun y hy => by obtain ⟨j,hj,rfl⟩:=List.getElem_of_mem hy;have:=h.miss j hj;rw [decide_eq_false (fun e => this e.symm)];decide
end
theorem belP_fin {l:List Hnd} {p:Int × Int} {i:Nat} {a:Bool} (h:BelP Hnd.ky l p i a):finB l p = a:=by
  cases a with
  | true => exact (fin_hit h).2
  | false => exact (fin_miss h).2
end Lum
namespace Go.Proofs.YtmjkenlifgmeeaaGreatDoor
open Go.RowKit Go.Shelf Lum
open Go.Lib (decDigits itoa)
attribute [local go_sem] bs_get bs_extract_end bs_extract_from bs_extract bs_append
theorem own_pplace_at (l : List Hnd) (v : Value) (d b : Int) (w : World) (hv : HndsAt w v l) (hs : AscK Hnd.ky l) (hn : l.length ≤ 1000000) {i : Nat} {hit : Bool} (hb : BelP Hnd.ky l (d, b) i hit) :
    Calls Tryz.prog 33 #[v,.agg #[.int .i64 d,.int .i64 b],.func (.func 34) #[] #[]] w fun e w' => e = .returned (.tuple #[.int .i64 (i:Int),.bool hit]) ∧ Below w.heap.size w w' :=
  (own_pplace l v d b w hv hs hn).mono fun e w' ⟨j,hj,h1,h2,h3⟩ => by
    obtain ⟨rfl,rfl⟩:=belP_uniq hb h1
    exact ⟨h2,h3⟩
theorem own_pgiven (es : List Ent) (l : List Amt) (u v : Value) (w : World) (he : EntsAt w u es) (hv : AmtsAt w v l) (hn : l.length ≤ 1000000) (hlen : ∀ y ∈ l, y.le.length ≤ 1000) (env : Env w) :
    Calls Tryz.prog 65 #[u,v] w fun e w' => e = .returned (.int .i64 (fitE es l)) ∧ Below w.heap.size w w':=by
  obtain ⟨p1,c1,rfl,hR1⟩:=he
  obtain ⟨p2,c2,rfl,hR2⟩:=hv
  have hv1:=Lib.hid hR1;have hv2:=Lib.hid hR2;have HFEW:=Lib.hid hn;have HLEN:=Lib.hid hlen;have ENV:=Lib.hid env;clear hR1 hR2 hn hlen env
  have HB:=Lib.hid (Below.refl w.heap.size w)
  by_cases hl:l.length = es.length
  · have hll:((l.length:Int) != (es.length:Int)) = false:=by rw [bne_eq_false_iff_eq];omega
    rw [show fitE es l = fitL es l from if_pos hl]
    have HLE:=Lib.hid hl
    clear hl
    go_enter Tryz.func65,Tryz.ntmps65
    go_wp2_with fail
    go_loopw [15] (fun s wr => ∃ k:Nat,s = .int .i64 (k:Int) ∧ k ≤ l.length ∧ Hid (fitL (es.drop k) (l.drop k) = fitL es l) ∧ Hid (Below w.heap.size w wr)) (fun s _ => l.length - (intOf s).toNat)
    case atStart => exact ⟨0,rfl,by omega,Lib.hid rfl,HB⟩
    case round =>
      obtain ⟨k,rfl,hk9,HS,HB2⟩:=hrel
      clear HB
      have HB:=HB2;clear HB2
      by_cases hkl:k < l.length
      · have hke:k < es.length:=by have:=HLE.out;omega
        have hlt:(k:Int) < (l.length:Int):=by omega
        have hlt2:(k:Int) < (es.length:Int):=by omega
        have hk0:(0:Int) ≤ (k:Int):=by omega
        have hlo:k * 4 < 9223372036854775807:=by have:=HFEW.out;omega
        have hlo2:k * 3 < 9223372036854775807:=by have:=HFEW.out;omega
        have hun:IntKind.i64.wrap ((k:Int) + 1) = (k:Int) + 1:=IntWalk.i64_in _ (by have:=HFEW.out;omega)
        obtain ⟨b1,o1,rfl,hb1,hC1⟩:=hv1.out (fun h => by subst h;exact absurd hke (Nat.not_lt_zero _))
        obtain ⟨b2,o2,rfl,hb2,hC2⟩:=hv2.out (fun h => by subst h;exact absurd hkl (Nat.not_lt_zero _))
        obtain ⟨x,hx⟩:∃ x,x = es[k]'hke:=⟨_,rfl⟩
        obtain ⟨y,hy⟩:∃ y,y = l[k]'hkl:=⟨_,rfl⟩
        have hc1:=hC1 k hke
        have hc2:=hC2 k hkl
        rw [← hx] at hc1
        rw [← hy] at hc2
        have hle:=HLEN.out y (by rw [hy];exact List.getElem_mem hkl)
        have hst:=fitL_at hke hkl
        rw [← hx,← hy,HS.out] at hst
        have HCX:=Lib.hid hc1;have HB1:=Lib.hid hb1
        have y0:wr.cell? ⟨b2,o2 + k * 3,none⟩ = some (.int .i64 (y.ch)):=(HB.out.cell (p:=⟨b2,o2 + k * 3 + 0,none⟩) hb2).trans (hc2 0 _ rfl)
        have y1:wr.cell? ⟨b2,o2 + k * 3 + 1,none⟩ = some (.int .i64 (y.at_)):=(HB.out.cell (p:=⟨b2,o2 + k * 3 + 1,none⟩) hb2).trans (hc2 1 _ rfl)
        have y2:wr.cell? ⟨b2,o2 + k * 3 + 2,none⟩ = some (.string ⟨y.le.toArray⟩):=(HB.out.cell (p:=⟨b2,o2 + k * 3 + 2,none⟩) hb2).trans (hc2 2 _ rfl)
        have hbr:b2 < wr.heap.size:=Nat.lt_of_lt_of_le hb2 HB.out.size
        clear hc1 hc2 hb1 hb2 hC1 hC2 hx hy
        have hlv:∀ W,Env W → _:=fun W (e:Env W) => own_gcheck y.le 0 0 0 W hle e
        rw [glE_from] at hlv
        go_upto_region 6 with fail
        clear y0 y1 y2 hbr
        have hb:=(Below.refl wr.heap.size wr).alloc (Nat.le_refl _) (.cells #[.int .i64 (y.ch),.int .i64 (y.at_),.string ⟨y.le.toArray⟩] 41)
        have HXB:=Lib.hid (Blk.new wr 41 #[.int .i64 (y.ch),.int .i64 (y.at_),.string ⟨y.le.toArray⟩])
        obtain ⟨n8,hn8⟩:∃ n,n = wr.heap.size:=⟨_,rfl⟩
        obtain ⟨Wa,hWWa⟩:∃ X,X = wr.alloc (.cells #[.int .i64 (y.ch),.int .i64 (y.at_),.string ⟨y.le.toArray⟩] 41):=⟨_,rfl⟩
        rw [← hn8] at HXB ⊢
        rw [← hWWa] at hb HXB ⊢
        replace HB:=Lib.hid (bch' HB.out hb);clear hb
        clear hWWa hn8
        obtain ⟨q0,q1,q2,qf0,qf1,qf2⟩:=HXB.out.c3
        by_cases hq:(y.ch,y.at_) = (x.ch,x.at_)
        · have hbb:((y.ch == x.ch) && (y.at_ == x.at_)) = true:=by rw [Prod.mk.injEq] at hq;simp [hq.1,hq.2]
          have hneqr:=fun W => neq_par W y.ch y.at_ x.ch x.at_
          rw [hbb] at hneqr
          (try simp only [Bool.not_true] at hneqr)
          rw [if_pos (show y.ky = x.ky from hq)] at hst
          clear hq hbb
          have f0:=fun p:BelowOf _ => (HXB.out.keep p.h).c3.1
          have f1:=fun p:BelowOf _ => (HXB.out.keep p.h).c3.2.1
          have e0:=fun p:BelowOf _ => ((bch' HB.out p.h).cell (p:=⟨b1,o1 + k * 4,none⟩) HB1.out).trans (HCX.out 0 _ rfl)
          have e1:=fun p:BelowOf _ => ((bch' HB.out p.h).cell (p:=⟨b1,o1 + k * 4 + 1,none⟩) HB1.out).trans (HCX.out 1 _ rfl)
          have e2:=fun p:BelowOf _ => ((bch' HB.out p.h).cell (p:=⟨b1,o1 + k * 4 + 2,none⟩) HB1.out).trans (HCX.out 2 _ rfl)
          have e3:=fun p:BelowOf _ => ((bch' HB.out p.h).cell (p:=⟨b1,o1 + k * 4 + 3,none⟩) HB1.out).trans (HCX.out 3 _ rfl)
          have z1:=fun p:BelowOf _ => Nat.lt_of_lt_of_le HB1.out (bch' HB.out p.h).size
          refine wp_region_WQ (by kernel_rfl) (by kernel_rfl) ?_
          repeat (refine WQ.step (fun K hK => ?_);go_simp;first | (refine hK.out _ ?_;clear hK K) | (apply Exists.intro;refine ⟨fun _ => ?_,hK.out _ ?_⟩;(first | rfl);clear hK K))
          refine WQ.nil ?_
          intro Wq hw'
          obtain ⟨⟨wq,hbq⟩,hw2⟩:=hw'
          subst hw2
          replace HXB:=Lib.hid (HXB.out.keep hbq)
          replace HB:=Lib.hid (bch' HB.out hbq)
          clear f0 f1 e0 e1 e2 e3 z1
          clear q0 q1 q2 qf0 qf1 qf2
          obtain ⟨q0,q1,q2,qf0,qf1,qf2⟩:=HXB.out.c3
          clear hneqr
          by_cases hz:levE y.le = 0
          · rw [if_pos hz] at hst
            have HS2:Hid (fitL (es.drop (k + 1)) (l.drop (k + 1)) = fitL es l):=Lib.hid hst.symm
            rw [hz] at hlv
            have HLV:=Lib.hid hlv;clear hlv hst hz hle
            go_wp2_with (first | (with_reducible refine ((HLV.out _ (ENV.out.below HB.out)).mono ?_);rintro e w' ⟨rfl,hb⟩;replace HXB:=Lib.hid (HXB.out.keep hb);clear q0 q1 q2 qf0 qf1 qf2;replace HB:=Lib.hid (bch' HB.out hb);clear hb;obtain ⟨q0,q1,q2,qf0,qf1,qf2⟩:=HXB.out.c3))
            go_roundw
            case rel => exact ⟨k + 1,by first | rfl | simp,by omega,HS2,HB⟩
            case measure => first | (simp [intOf];done) | (simp [intOf];omega)
          · rw [if_neg hz] at hst
            have HE:Hid (fitL es l = levE y.le):=Lib.hid hst
            have hne:((levE y.le:Int) != 0) = true:=by simpa using hz
            clear hst hz hle
            generalize levE y.le = m at *
            have HLV:=Lib.hid hlv;clear hlv
            go_wp2_with (first | (with_reducible refine ((HLV.out _ (ENV.out.below HB.out)).mono ?_);rintro e w' ⟨rfl,hb⟩;replace HXB:=Lib.hid (HXB.out.keep hb);clear q0 q1 q2 qf0 qf1 qf2;replace HB:=Lib.hid (bch' HB.out hb);clear hb;obtain ⟨q0,q1,q2,qf0,qf1,qf2⟩:=HXB.out.c3))
            go_ret
            exact ⟨by first | (rw [HE.out];done) | (rw [HE.out];rfl),HB.out⟩
        · have hbb:((y.ch == x.ch) && (y.at_ == x.at_)) = false:=by rw [Bool.eq_false_iff];intro h;rw [Bool.and_eq_true,beq_iff_eq,beq_iff_eq] at h;exact hq (Prod.ext h.1 h.2)
          have hneqr:=fun W => neq_par W y.ch y.at_ x.ch x.at_
          rw [hbb] at hneqr
          (try simp only [Bool.not_false] at hneqr)
          rw [if_neg (show ¬ y.ky = x.ky from hq)] at hst
          have HE:Hid (fitL es l = 9):=Lib.hid hst
          clear hq hbb hst hlv hle
          have f0:=fun p:BelowOf _ => (HXB.out.keep p.h).c3.1
          have f1:=fun p:BelowOf _ => (HXB.out.keep p.h).c3.2.1
          have e0:=fun p:BelowOf _ => ((bch' HB.out p.h).cell (p:=⟨b1,o1 + k * 4,none⟩) HB1.out).trans (HCX.out 0 _ rfl)
          have e1:=fun p:BelowOf _ => ((bch' HB.out p.h).cell (p:=⟨b1,o1 + k * 4 + 1,none⟩) HB1.out).trans (HCX.out 1 _ rfl)
          have e2:=fun p:BelowOf _ => ((bch' HB.out p.h).cell (p:=⟨b1,o1 + k * 4 + 2,none⟩) HB1.out).trans (HCX.out 2 _ rfl)
          have e3:=fun p:BelowOf _ => ((bch' HB.out p.h).cell (p:=⟨b1,o1 + k * 4 + 3,none⟩) HB1.out).trans (HCX.out 3 _ rfl)
          have z1:=fun p:BelowOf _ => Nat.lt_of_lt_of_le HB1.out (bch' HB.out p.h).size
          refine wp_region_WQ (by kernel_rfl) (by kernel_rfl) ?_
          repeat (refine WQ.step (fun K hK => ?_);go_simp;first | (refine hK.out _ ?_;clear hK K) | (apply Exists.intro;refine ⟨fun _ => ?_,hK.out _ ?_⟩;(first | rfl);clear hK K))
          refine WQ.nil ?_
          intro Wq hw'
          obtain ⟨⟨wq,hbq⟩,hw2⟩:=hw'
          subst hw2
          replace HXB:=Lib.hid (HXB.out.keep hbq)
          replace HB:=Lib.hid (bch' HB.out hbq)
          clear f0 f1 e0 e1 e2 e3 z1
          clear q0 q1 q2 qf0 qf1 qf2
          obtain ⟨q0,q1,q2,qf0,qf1,qf2⟩:=HXB.out.c3
          clear hneqr
          go_wp2_with fail
          go_ret
          exact ⟨by first | (rw [HE.out];done) | (rw [HE.out];rfl),HB.out⟩
      · have hlt:¬ (k:Int) < (l.length:Int):=by omega
        obtain rfl:k = l.length:=by omega
        have HE:Hid (fitL es l = 0):=Lib.hid (by rw [← HS.out];exact fitL_end HLE.out)
        go_wp2_with fail
        go_ret
        exact ⟨by first | (rw [HE.out];done) | (rw [HE.out];rfl),HB.out⟩
  · have hll:((l.length:Int) != (es.length:Int)) = true:=by rw [bne_iff_ne];omega
    rw [show fitE es l = 14 from if_neg hl]
    go_enter Tryz.func65,Tryz.ntmps65
    go_wp2_with fail
    go_ret
    exact ⟨rfl,HB.out⟩
theorem cl_ask1 (l : List Hnd) (p : Option Addr) (c : Nat) (B0 : Nat) (w : World) (hc0 : w.cell? ⟨B0, 0, none⟩ = some (.slice p l.length c)) (hv : HndsAt w (.slice p l.length c) l) (hx : l.length ≤ 256 → ∀ x ∈ l, x.fr.length ≤ 1000) (env : Env w) :
    Calls Tryz.prog 60 #[.pointer (some ⟨B0,0,none⟩)] w fun e w' => e = .returned (.int .i64 (hnsE l)) ∧ Below w.heap.size w w':=by
  have HB:=Lib.hid (Below.refl w.heap.size w)
  have hk:Calls Tryz.prog _ _ _ (fun e w' => e = .returned (.int .i64 (hnsE l)) ∧ _):=own_pcheck l _ w hv hx env
  generalize hnsE l = m at *
  have HK:=Lib.hid hk;clear hk
  go_enter Tryz.func60,Tryz.ntmps60
  go_wp2_with (with_reducible refine ((HK.out).mono ?_);rintro e w' ⟨rfl,hb⟩;replace HB:=Lib.hid hb;clear hb)
  go_ret
  exact ⟨rfl,HB.out⟩
theorem cl_ask2 (es : List Ent) (p : Option Addr) (c : Nat) (B0 : Nat) (w : World) (hc0 : w.cell? ⟨B0, 0, none⟩ = some (.slice p es.length c)) (hv : EntsAt w (.slice p es.length c) es) :
    Calls Tryz.prog 61 #[.pointer (some ⟨B0,0,none⟩)] w fun e w' => e = .returned (.int .i64 (entsE es)) ∧ Below w.heap.size w w':=by
  have HB:=Lib.hid (Below.refl w.heap.size w)
  have hk:Calls Tryz.prog _ _ _ (fun e w' => e = .returned (.int .i64 (entsE es)) ∧ _):=own_pents es _ w hv
  generalize entsE es = m at *
  have HK:=Lib.hid hk;clear hk
  go_enter Tryz.func61,Tryz.ntmps61
  go_wp2_with (with_reducible refine ((HK.out).mono ?_);rintro e w' ⟨rfl,hb⟩;replace HB:=Lib.hid hb;clear hb)
  go_ret
  exact ⟨rfl,HB.out⟩
theorem cl_ask3 (t ti : Int) (B0 B1 : Nat) (w : World) (hc0 : w.cell? ⟨B0, 0, none⟩ = some (.int .i64 t)) (hc1 : w.cell? ⟨B1, 0, none⟩ = some (.int .i64 ti)) (env : Env w) :
    Calls Tryz.prog 62 #[.pointer (some ⟨B0,0,none⟩),.pointer (some ⟨B1,0,none⟩)] w fun e w' => e = .returned (.int .i64 (glE ([48]:Txt) 0 t ti)) ∧ Below w.heap.size w w':=by
  have HB:=Lib.hid (Below.refl w.heap.size w)
  have hk:=own_gcheck ([48]:Txt) 0 t ti w (by decide) env
  generalize glE ([48]:Txt) 0 t ti = m at *
  have HK:=Lib.hid hk;clear hk
  go_enter Tryz.func62,Tryz.ntmps62
  go_wp2_with (with_reducible refine ((HK.out).mono ?_);rintro e w' ⟨rfl,hb⟩;replace HB:=Lib.hid hb;clear hb)
  go_ret
  exact ⟨rfl,HB.out⟩
theorem cl_ask4 (es : List Ent) (l : List Amt) (p1 p2 : Option Addr) (c1 c2 : Nat) (B0 B1 : Nat) (w : World) (hc0 : w.cell? ⟨B0, 0, none⟩ = some (.slice p1 es.length c1)) (hc1 : w.cell? ⟨B1, 0, none⟩ = some (.slice p2 l.length c2)) (hu : EntsAt w (.slice p1 es.length c1) es) (hv : AmtsAt w (.slice p2 l.length c2) l) (hn : l.length ≤ 1000000) (hlen : ∀ y ∈ l, y.le.length ≤ 1000) (env : Env w) :
    Calls Tryz.prog 64 #[.pointer (some ⟨B0,0,none⟩),.pointer (some ⟨B1,0,none⟩)] w fun e w' => e = .returned (.int .i64 (fitE es l)) ∧ Below w.heap.size w w':=by
  have HB:=Lib.hid (Below.refl w.heap.size w)
  have hk:=own_pgiven es l _ _ w hu hv hn hlen env
  generalize fitE es l = m at *
  have HK:=Lib.hid hk;clear hk
  go_enter Tryz.func64,Tryz.ntmps64
  go_wp2_with (with_reducible refine ((HK.out).mono ?_);rintro e w' ⟨rfl,hb⟩;replace HB:=Lib.hid hb;clear hb)
  go_ret
  exact ⟨rfl,HB.out⟩
theorem own_pasked (l : List Hnd) (t : Int) (es : List Ent) (ti : Int) (now : List Amt) (v u z : Value) (w : World) (hv : HndsAt w v l) (hu : EntsAt w u es) (hz : AmtsAt w z now) (hx : l.length ≤ 256 → ∀ x ∈ l, x.fr.length ≤ 1000) (hna : now.length ≤ 1000000) (hlen : ∀ y ∈ now, y.le.length ≤ 1000) (env : Env w) :
    Calls Tryz.prog 32 #[v,.int .i64 t,u,.int .i64 ti,z] w fun e w' => e = .returned (.int .i64 (askE l t es ti now)) ∧ Below w.heap.size w w':=by
  obtain ⟨p0,c0,rfl,hR0⟩:=hv
  obtain ⟨p1,c1,rfl,hR1⟩:=hu
  obtain ⟨p2,c2,rfl,hR2⟩:=hz
  have HV:=Lib.hid (show HndsAt w (.slice p0 l.length c0) l from ⟨_,_,rfl,hR0⟩);have HU:=Lib.hid (show EntsAt w (.slice p1 es.length c1) es from ⟨_,_,rfl,hR1⟩);have HZ:=Lib.hid (show AmtsAt w (.slice p2 now.length c2) now from ⟨_,_,rfl,hR2⟩);have ENV:=Lib.hid env
  clear hR0 hR1 hR2 env
  have H0:=Lib.hid (CellsAt.new w [.slice p0 l.length c0] 24)
  have HB:=Lib.hid ((Below.refl w.heap.size w).alloc (Nat.le_refl _) (.cells #[.slice p0 l.length c0] 24))
  have H1:=Lib.hid (CellsAt.new ((w.alloc (.cells #[.slice p0 l.length c0] 24))) [.int .i64 t] 3)
  replace H0:=Lib.hid (H0.out.alloc (.cells #[.int .i64 t] 3))
  replace HB:=Lib.hid (HB.out.alloc (by simp only [World.size_alloc];omega) (.cells #[.int .i64 t] 3))
  have H2:=Lib.hid (CellsAt.new (((w.alloc (.cells #[.slice p0 l.length c0] 24)).alloc (.cells #[.int .i64 t] 3))) [.slice p1 es.length c1] 25)
  replace H0:=Lib.hid (H0.out.alloc (.cells #[.slice p1 es.length c1] 25))
  replace H1:=Lib.hid (H1.out.alloc (.cells #[.slice p1 es.length c1] 25))
  replace HB:=Lib.hid (HB.out.alloc (by simp only [World.size_alloc];omega) (.cells #[.slice p1 es.length c1] 25))
  have H3:=Lib.hid (CellsAt.new ((((w.alloc (.cells #[.slice p0 l.length c0] 24)).alloc (.cells #[.int .i64 t] 3)).alloc (.cells #[.slice p1 es.length c1] 25))) [.int .i64 ti] 3)
  replace H0:=Lib.hid (H0.out.alloc (.cells #[.int .i64 ti] 3))
  replace H1:=Lib.hid (H1.out.alloc (.cells #[.int .i64 ti] 3))
  replace H2:=Lib.hid (H2.out.alloc (.cells #[.int .i64 ti] 3))
  replace HB:=Lib.hid (HB.out.alloc (by simp only [World.size_alloc];omega) (.cells #[.int .i64 ti] 3))
  have H4:=Lib.hid (CellsAt.new (((((w.alloc (.cells #[.slice p0 l.length c0] 24)).alloc (.cells #[.int .i64 t] 3)).alloc (.cells #[.slice p1 es.length c1] 25)).alloc (.cells #[.int .i64 ti] 3))) [.slice p2 now.length c2] 32)
  replace H0:=Lib.hid (H0.out.alloc (.cells #[.slice p2 now.length c2] 32))
  replace H1:=Lib.hid (H1.out.alloc (.cells #[.slice p2 now.length c2] 32))
  replace H2:=Lib.hid (H2.out.alloc (.cells #[.slice p2 now.length c2] 32))
  replace H3:=Lib.hid (H3.out.alloc (.cells #[.slice p2 now.length c2] 32))
  replace HB:=Lib.hid (HB.out.alloc (by simp only [World.size_alloc];omega) (.cells #[.slice p2 now.length c2] 32))
  have HF:=Lib.hid (CellsAt.new ((((((w.alloc (.cells #[.slice p0 l.length c0] 24)).alloc (.cells #[.int .i64 t] 3)).alloc (.cells #[.slice p1 es.length c1] 25)).alloc (.cells #[.int .i64 ti] 3)).alloc (.cells #[.slice p2 now.length c2] 32))) [.func (.func 60) #[] #[.pointer (some ⟨w.heap.size,0,none⟩)],.func (.func 61) #[] #[.pointer (some ⟨w.heap.size + 2,0,none⟩)],.func (.func 62) #[] #[.pointer (some ⟨w.heap.size + 1,0,none⟩),.pointer (some ⟨w.heap.size + 3,0,none⟩)],.func (.func 64) #[] #[.pointer (some ⟨w.heap.size + 2,0,none⟩),.pointer (some ⟨w.heap.size + 4,0,none⟩)]] 120)
  replace H0:=Lib.hid (H0.out.alloc (.cells #[.func (.func 60) #[] #[.pointer (some ⟨w.heap.size,0,none⟩)],.func (.func 61) #[] #[.pointer (some ⟨w.heap.size + 2,0,none⟩)],.func (.func 62) #[] #[.pointer (some ⟨w.heap.size + 1,0,none⟩),.pointer (some ⟨w.heap.size + 3,0,none⟩)],.func (.func 64) #[] #[.pointer (some ⟨w.heap.size + 2,0,none⟩),.pointer (some ⟨w.heap.size + 4,0,none⟩)]] 120))
  replace H1:=Lib.hid (H1.out.alloc (.cells #[.func (.func 60) #[] #[.pointer (some ⟨w.heap.size,0,none⟩)],.func (.func 61) #[] #[.pointer (some ⟨w.heap.size + 2,0,none⟩)],.func (.func 62) #[] #[.pointer (some ⟨w.heap.size + 1,0,none⟩),.pointer (some ⟨w.heap.size + 3,0,none⟩)],.func (.func 64) #[] #[.pointer (some ⟨w.heap.size + 2,0,none⟩),.pointer (some ⟨w.heap.size + 4,0,none⟩)]] 120))
  replace H2:=Lib.hid (H2.out.alloc (.cells #[.func (.func 60) #[] #[.pointer (some ⟨w.heap.size,0,none⟩)],.func (.func 61) #[] #[.pointer (some ⟨w.heap.size + 2,0,none⟩)],.func (.func 62) #[] #[.pointer (some ⟨w.heap.size + 1,0,none⟩),.pointer (some ⟨w.heap.size + 3,0,none⟩)],.func (.func 64) #[] #[.pointer (some ⟨w.heap.size + 2,0,none⟩),.pointer (some ⟨w.heap.size + 4,0,none⟩)]] 120))
  replace H3:=Lib.hid (H3.out.alloc (.cells #[.func (.func 60) #[] #[.pointer (some ⟨w.heap.size,0,none⟩)],.func (.func 61) #[] #[.pointer (some ⟨w.heap.size + 2,0,none⟩)],.func (.func 62) #[] #[.pointer (some ⟨w.heap.size + 1,0,none⟩),.pointer (some ⟨w.heap.size + 3,0,none⟩)],.func (.func 64) #[] #[.pointer (some ⟨w.heap.size + 2,0,none⟩),.pointer (some ⟨w.heap.size + 4,0,none⟩)]] 120))
  replace H4:=Lib.hid (H4.out.alloc (.cells #[.func (.func 60) #[] #[.pointer (some ⟨w.heap.size,0,none⟩)],.func (.func 61) #[] #[.pointer (some ⟨w.heap.size + 2,0,none⟩)],.func (.func 62) #[] #[.pointer (some ⟨w.heap.size + 1,0,none⟩),.pointer (some ⟨w.heap.size + 3,0,none⟩)],.func (.func 64) #[] #[.pointer (some ⟨w.heap.size + 2,0,none⟩),.pointer (some ⟨w.heap.size + 4,0,none⟩)]] 120))
  replace HB:=Lib.hid (HB.out.alloc (by simp only [World.size_alloc];omega) (.cells #[.func (.func 60) #[] #[.pointer (some ⟨w.heap.size,0,none⟩)],.func (.func 61) #[] #[.pointer (some ⟨w.heap.size + 2,0,none⟩)],.func (.func 62) #[] #[.pointer (some ⟨w.heap.size + 1,0,none⟩),.pointer (some ⟨w.heap.size + 3,0,none⟩)],.func (.func 64) #[] #[.pointer (some ⟨w.heap.size + 2,0,none⟩),.pointer (some ⟨w.heap.size + 4,0,none⟩)]] 120))
  simp only [World.size_alloc,Nat.add_assoc,Nat.reduceAdd] at H1 H2 H3 H4 HF
  have a0:=H0.out.2 0 _ rfl;have aL:=H0.out.1
  have b0:=H1.out.2 0 _ rfl;have bL:=H1.out.1
  have d0:=H2.out.2 0 _ rfl;have dL:=H2.out.1
  have f0:=H3.out.2 0 _ rfl;have fL:=H3.out.1
  have g0:=H4.out.2 0 _ rfl;have gL:=H4.out.1
  have h0:=HF.out.2 0 _ rfl;have h1:=HF.out.2 1 _ rfl;have h2:=HF.out.2 2 _ rfl;have h3:=HF.out.2 3 _ rfl;have hL:=HF.out.1
  go_enter Tryz.func32,Tryz.ntmps32
  go_upto_region 2 with fail
  generalize (((((w.alloc (.cells #[.slice p0 l.length c0] 24)).alloc (.cells #[.int .i64 t] 3)).alloc (.cells #[.slice p1 es.length c1] 25)).alloc (.cells #[.int .i64 ti] 3)).alloc (.cells #[.slice p2 now.length c2] 32)).alloc (.cells #[.func (.func 60) #[] #[.pointer (some ⟨w.heap.size,0,none⟩)],.func (.func 61) #[] #[.pointer (some ⟨w.heap.size + 2,0,none⟩)],.func (.func 62) #[] #[.pointer (some ⟨w.heap.size + 1,0,none⟩),.pointer (some ⟨w.heap.size + 3,0,none⟩)],.func (.func 64) #[] #[.pointer (some ⟨w.heap.size + 2,0,none⟩),.pointer (some ⟨w.heap.size + 4,0,none⟩)]] 120) = W0 at *
  have r1:∀ W,Below W0.heap.size W0 W → Calls Tryz.prog 60 #[.pointer (some ⟨w.heap.size,0,none⟩)] W fun e w' => e = .returned (.int .i64 (hnsE l)) ∧ Below W.heap.size W w':=fun W hb => cl_ask1 l p0 c0 _ W ((H0.out.keep hb).2 0 _ rfl) (HndsAt.kept HV.out (bch' HB.out hb)) hx (ENV.out.below (bch' HB.out hb))
  have r2:∀ W,Below W0.heap.size W0 W → Calls Tryz.prog 61 #[.pointer (some ⟨w.heap.size + 2,0,none⟩)] W fun e w' => e = .returned (.int .i64 (entsE es)) ∧ Below W.heap.size W w':=fun W hb => cl_ask2 es p1 c1 _ W ((H2.out.keep hb).2 0 _ rfl) (EntsAt.kept HU.out (bch' HB.out hb))
  have r3:∀ W,Below W0.heap.size W0 W → Calls Tryz.prog 62 #[.pointer (some ⟨w.heap.size + 1,0,none⟩),.pointer (some ⟨w.heap.size + 3,0,none⟩)] W fun e w' => e = .returned (.int .i64 (glE ([48]:Txt) 0 t ti)) ∧ Below W.heap.size W w':=fun W hb => cl_ask3 t ti _ _ W ((H1.out.keep hb).2 0 _ rfl) ((H3.out.keep hb).2 0 _ rfl) (ENV.out.below (bch' HB.out hb))
  have r4:∀ W,Below W0.heap.size W0 W → Calls Tryz.prog 64 #[.pointer (some ⟨w.heap.size + 2,0,none⟩),.pointer (some ⟨w.heap.size + 4,0,none⟩)] W fun e w' => e = .returned (.int .i64 (fitE es now)) ∧ Below W.heap.size W w':=fun W hb => cl_ask4 es now p1 p2 c1 c2 _ _ W ((H2.out.keep hb).2 0 _ rfl) ((H4.out.keep hb).2 0 _ rfl) (EntsAt.kept HU.out (bch' HB.out hb)) (AmtsAt.kept HZ.out (bch' HB.out hb)) hna hlen (ENV.out.below (bch' HB.out hb))
  rw [glE_tim] at r3
  have HB1:=HB;clear HB
  have HB:=Lib.hid (Below.refl W0.heap.size W0)
  clear a0 aL;clear b0 bL;clear d0 dL;clear f0 fL;clear g0 gL;clear h0 h1 h2 h3 hL
  clear H0 H1 H2 H3 H4 HV HU HZ ENV hx hna hlen
  have h0:=HF.out.2 0 _ rfl;have h1:=HF.out.2 1 _ rfl;have h2:=HF.out.2 2 _ rfl;have h3:=HF.out.2 3 _ rfl;have hL:=HF.out.1
  by_cases g1:hnsE l = 0
  · by_cases g2:entsE es = 0
    · by_cases g3:timB t ti
      · by_cases g4:fitE es now = 0
        · have HE:Hid (askE l t es ti now = 0):=Lib.hid ((askE_f g1 g2 g3).trans g4)
          rw [g1] at r1
          rw [g2] at r2
          rw [if_pos g3] at r3
          rw [g4] at r4
          clear g1 g2 g3 g4
          have H1A:=Lib.hid r1;have H2A:=Lib.hid r2;have H3A:=Lib.hid r3;have H4A:=Lib.hid r4
          clear r1 r2 r3 r4
          go_wp2_with fail
          refine wp_loop_rounds 5 ?_
          rw [rounds_succ]
          go_wp2_with (first | ((with_reducible refine ((H1A.out _ HB.out).mono ?_));rintro e w' ⟨rfl,hb⟩;replace HF:=Lib.hid (HF.out.keep hb);replace HB:=Lib.hid (bch' HB.out hb);clear hb;clear h0 h1 h2 h3 hL;have h0:=HF.out.2 0 _ rfl;have h1:=HF.out.2 1 _ rfl;have h2:=HF.out.2 2 _ rfl;have h3:=HF.out.2 3 _ rfl;have hL:=HF.out.1) | ((with_reducible refine ((H2A.out _ HB.out).mono ?_));rintro e w' ⟨rfl,hb⟩;replace HF:=Lib.hid (HF.out.keep hb);replace HB:=Lib.hid (bch' HB.out hb);clear hb;clear h0 h1 h2 h3 hL;have h0:=HF.out.2 0 _ rfl;have h1:=HF.out.2 1 _ rfl;have h2:=HF.out.2 2 _ rfl;have h3:=HF.out.2 3 _ rfl;have hL:=HF.out.1) | ((with_reducible refine ((H3A.out _ HB.out).mono ?_));rintro e w' ⟨rfl,hb⟩;replace HF:=Lib.hid (HF.out.keep hb);replace HB:=Lib.hid (bch' HB.out hb);clear hb;clear h0 h1 h2 h3 hL;have h0:=HF.out.2 0 _ rfl;have h1:=HF.out.2 1 _ rfl;have h2:=HF.out.2 2 _ rfl;have h3:=HF.out.2 3 _ rfl;have hL:=HF.out.1) | ((with_reducible refine ((H4A.out _ HB.out).mono ?_));rintro e w' ⟨rfl,hb⟩;replace HF:=Lib.hid (HF.out.keep hb);replace HB:=Lib.hid (bch' HB.out hb);clear hb;clear h0 h1 h2 h3 hL;have h0:=HF.out.2 0 _ rfl;have h1:=HF.out.2 1 _ rfl;have h2:=HF.out.2 2 _ rfl;have h3:=HF.out.2 3 _ rfl;have hL:=HF.out.1))
          rw [rounds_succ]
          go_wp2_with (first | ((with_reducible refine ((H1A.out _ HB.out).mono ?_));rintro e w' ⟨rfl,hb⟩;replace HF:=Lib.hid (HF.out.keep hb);replace HB:=Lib.hid (bch' HB.out hb);clear hb;clear h0 h1 h2 h3 hL;have h0:=HF.out.2 0 _ rfl;have h1:=HF.out.2 1 _ rfl;have h2:=HF.out.2 2 _ rfl;have h3:=HF.out.2 3 _ rfl;have hL:=HF.out.1) | ((with_reducible refine ((H2A.out _ HB.out).mono ?_));rintro e w' ⟨rfl,hb⟩;replace HF:=Lib.hid (HF.out.keep hb);replace HB:=Lib.hid (bch' HB.out hb);clear hb;clear h0 h1 h2 h3 hL;have h0:=HF.out.2 0 _ rfl;have h1:=HF.out.2 1 _ rfl;have h2:=HF.out.2 2 _ rfl;have h3:=HF.out.2 3 _ rfl;have hL:=HF.out.1) | ((with_reducible refine ((H3A.out _ HB.out).mono ?_));rintro e w' ⟨rfl,hb⟩;replace HF:=Lib.hid (HF.out.keep hb);replace HB:=Lib.hid (bch' HB.out hb);clear hb;clear h0 h1 h2 h3 hL;have h0:=HF.out.2 0 _ rfl;have h1:=HF.out.2 1 _ rfl;have h2:=HF.out.2 2 _ rfl;have h3:=HF.out.2 3 _ rfl;have hL:=HF.out.1) | ((with_reducible refine ((H4A.out _ HB.out).mono ?_));rintro e w' ⟨rfl,hb⟩;replace HF:=Lib.hid (HF.out.keep hb);replace HB:=Lib.hid (bch' HB.out hb);clear hb;clear h0 h1 h2 h3 hL;have h0:=HF.out.2 0 _ rfl;have h1:=HF.out.2 1 _ rfl;have h2:=HF.out.2 2 _ rfl;have h3:=HF.out.2 3 _ rfl;have hL:=HF.out.1))
          rw [rounds_succ]
          go_wp2_with (first | ((with_reducible refine ((H1A.out _ HB.out).mono ?_));rintro e w' ⟨rfl,hb⟩;replace HF:=Lib.hid (HF.out.keep hb);replace HB:=Lib.hid (bch' HB.out hb);clear hb;clear h0 h1 h2 h3 hL;have h0:=HF.out.2 0 _ rfl;have h1:=HF.out.2 1 _ rfl;have h2:=HF.out.2 2 _ rfl;have h3:=HF.out.2 3 _ rfl;have hL:=HF.out.1) | ((with_reducible refine ((H2A.out _ HB.out).mono ?_));rintro e w' ⟨rfl,hb⟩;replace HF:=Lib.hid (HF.out.keep hb);replace HB:=Lib.hid (bch' HB.out hb);clear hb;clear h0 h1 h2 h3 hL;have h0:=HF.out.2 0 _ rfl;have h1:=HF.out.2 1 _ rfl;have h2:=HF.out.2 2 _ rfl;have h3:=HF.out.2 3 _ rfl;have hL:=HF.out.1) | ((with_reducible refine ((H3A.out _ HB.out).mono ?_));rintro e w' ⟨rfl,hb⟩;replace HF:=Lib.hid (HF.out.keep hb);replace HB:=Lib.hid (bch' HB.out hb);clear hb;clear h0 h1 h2 h3 hL;have h0:=HF.out.2 0 _ rfl;have h1:=HF.out.2 1 _ rfl;have h2:=HF.out.2 2 _ rfl;have h3:=HF.out.2 3 _ rfl;have hL:=HF.out.1) | ((with_reducible refine ((H4A.out _ HB.out).mono ?_));rintro e w' ⟨rfl,hb⟩;replace HF:=Lib.hid (HF.out.keep hb);replace HB:=Lib.hid (bch' HB.out hb);clear hb;clear h0 h1 h2 h3 hL;have h0:=HF.out.2 0 _ rfl;have h1:=HF.out.2 1 _ rfl;have h2:=HF.out.2 2 _ rfl;have h3:=HF.out.2 3 _ rfl;have hL:=HF.out.1))
          rw [rounds_succ]
          go_wp2_with (first | ((with_reducible refine ((H1A.out _ HB.out).mono ?_));rintro e w' ⟨rfl,hb⟩;replace HF:=Lib.hid (HF.out.keep hb);replace HB:=Lib.hid (bch' HB.out hb);clear hb;clear h0 h1 h2 h3 hL;have h0:=HF.out.2 0 _ rfl;have h1:=HF.out.2 1 _ rfl;have h2:=HF.out.2 2 _ rfl;have h3:=HF.out.2 3 _ rfl;have hL:=HF.out.1) | ((with_reducible refine ((H2A.out _ HB.out).mono ?_));rintro e w' ⟨rfl,hb⟩;replace HF:=Lib.hid (HF.out.keep hb);replace HB:=Lib.hid (bch' HB.out hb);clear hb;clear h0 h1 h2 h3 hL;have h0:=HF.out.2 0 _ rfl;have h1:=HF.out.2 1 _ rfl;have h2:=HF.out.2 2 _ rfl;have h3:=HF.out.2 3 _ rfl;have hL:=HF.out.1) | ((with_reducible refine ((H3A.out _ HB.out).mono ?_));rintro e w' ⟨rfl,hb⟩;replace HF:=Lib.hid (HF.out.keep hb);replace HB:=Lib.hid (bch' HB.out hb);clear hb;clear h0 h1 h2 h3 hL;have h0:=HF.out.2 0 _ rfl;have h1:=HF.out.2 1 _ rfl;have h2:=HF.out.2 2 _ rfl;have h3:=HF.out.2 3 _ rfl;have hL:=HF.out.1) | ((with_reducible refine ((H4A.out _ HB.out).mono ?_));rintro e w' ⟨rfl,hb⟩;replace HF:=Lib.hid (HF.out.keep hb);replace HB:=Lib.hid (bch' HB.out hb);clear hb;clear h0 h1 h2 h3 hL;have h0:=HF.out.2 0 _ rfl;have h1:=HF.out.2 1 _ rfl;have h2:=HF.out.2 2 _ rfl;have h3:=HF.out.2 3 _ rfl;have hL:=HF.out.1))
          rw [rounds_succ]
          go_wp2_with fail
          go_ret
          exact ⟨by first | (rw [HE.out];done) | (rw [HE.out];rfl),bch' HB1.out HB.out⟩
        · have HE:Hid (askE l t es ti now = fitE es now):=Lib.hid (askE_f g1 g2 g3)
          rw [g1] at r1
          rw [g2] at r2
          rw [if_pos g3] at r3
          clear g1 g2 g3
          have hne:((fitE es now:Int) != 0) = true:=by simpa using g4
          generalize fitE es now = m at *
          clear g4
          have H1A:=Lib.hid r1;have H2A:=Lib.hid r2;have H3A:=Lib.hid r3;have H4A:=Lib.hid r4
          clear r1 r2 r3 r4
          go_wp2_with fail
          refine wp_loop_rounds 5 ?_
          rw [rounds_succ]
          go_wp2_with (first | ((with_reducible refine ((H1A.out _ HB.out).mono ?_));rintro e w' ⟨rfl,hb⟩;replace HF:=Lib.hid (HF.out.keep hb);replace HB:=Lib.hid (bch' HB.out hb);clear hb;clear h0 h1 h2 h3 hL;have h0:=HF.out.2 0 _ rfl;have h1:=HF.out.2 1 _ rfl;have h2:=HF.out.2 2 _ rfl;have h3:=HF.out.2 3 _ rfl;have hL:=HF.out.1) | ((with_reducible refine ((H2A.out _ HB.out).mono ?_));rintro e w' ⟨rfl,hb⟩;replace HF:=Lib.hid (HF.out.keep hb);replace HB:=Lib.hid (bch' HB.out hb);clear hb;clear h0 h1 h2 h3 hL;have h0:=HF.out.2 0 _ rfl;have h1:=HF.out.2 1 _ rfl;have h2:=HF.out.2 2 _ rfl;have h3:=HF.out.2 3 _ rfl;have hL:=HF.out.1) | ((with_reducible refine ((H3A.out _ HB.out).mono ?_));rintro e w' ⟨rfl,hb⟩;replace HF:=Lib.hid (HF.out.keep hb);replace HB:=Lib.hid (bch' HB.out hb);clear hb;clear h0 h1 h2 h3 hL;have h0:=HF.out.2 0 _ rfl;have h1:=HF.out.2 1 _ rfl;have h2:=HF.out.2 2 _ rfl;have h3:=HF.out.2 3 _ rfl;have hL:=HF.out.1) | ((with_reducible refine ((H4A.out _ HB.out).mono ?_));rintro e w' ⟨rfl,hb⟩;replace HF:=Lib.hid (HF.out.keep hb);replace HB:=Lib.hid (bch' HB.out hb);clear hb;clear h0 h1 h2 h3 hL;have h0:=HF.out.2 0 _ rfl;have h1:=HF.out.2 1 _ rfl;have h2:=HF.out.2 2 _ rfl;have h3:=HF.out.2 3 _ rfl;have hL:=HF.out.1))
          rw [rounds_succ]
          go_wp2_with (first | ((with_reducible refine ((H1A.out _ HB.out).mono ?_));rintro e w' ⟨rfl,hb⟩;replace HF:=Lib.hid (HF.out.keep hb);replace HB:=Lib.hid (bch' HB.out hb);clear hb;clear h0 h1 h2 h3 hL;have h0:=HF.out.2 0 _ rfl;have h1:=HF.out.2 1 _ rfl;have h2:=HF.out.2 2 _ rfl;have h3:=HF.out.2 3 _ rfl;have hL:=HF.out.1) | ((with_reducible refine ((H2A.out _ HB.out).mono ?_));rintro e w' ⟨rfl,hb⟩;replace HF:=Lib.hid (HF.out.keep hb);replace HB:=Lib.hid (bch' HB.out hb);clear hb;clear h0 h1 h2 h3 hL;have h0:=HF.out.2 0 _ rfl;have h1:=HF.out.2 1 _ rfl;have h2:=HF.out.2 2 _ rfl;have h3:=HF.out.2 3 _ rfl;have hL:=HF.out.1) | ((with_reducible refine ((H3A.out _ HB.out).mono ?_));rintro e w' ⟨rfl,hb⟩;replace HF:=Lib.hid (HF.out.keep hb);replace HB:=Lib.hid (bch' HB.out hb);clear hb;clear h0 h1 h2 h3 hL;have h0:=HF.out.2 0 _ rfl;have h1:=HF.out.2 1 _ rfl;have h2:=HF.out.2 2 _ rfl;have h3:=HF.out.2 3 _ rfl;have hL:=HF.out.1) | ((with_reducible refine ((H4A.out _ HB.out).mono ?_));rintro e w' ⟨rfl,hb⟩;replace HF:=Lib.hid (HF.out.keep hb);replace HB:=Lib.hid (bch' HB.out hb);clear hb;clear h0 h1 h2 h3 hL;have h0:=HF.out.2 0 _ rfl;have h1:=HF.out.2 1 _ rfl;have h2:=HF.out.2 2 _ rfl;have h3:=HF.out.2 3 _ rfl;have hL:=HF.out.1))
          rw [rounds_succ]
          go_wp2_with (first | ((with_reducible refine ((H1A.out _ HB.out).mono ?_));rintro e w' ⟨rfl,hb⟩;replace HF:=Lib.hid (HF.out.keep hb);replace HB:=Lib.hid (bch' HB.out hb);clear hb;clear h0 h1 h2 h3 hL;have h0:=HF.out.2 0 _ rfl;have h1:=HF.out.2 1 _ rfl;have h2:=HF.out.2 2 _ rfl;have h3:=HF.out.2 3 _ rfl;have hL:=HF.out.1) | ((with_reducible refine ((H2A.out _ HB.out).mono ?_));rintro e w' ⟨rfl,hb⟩;replace HF:=Lib.hid (HF.out.keep hb);replace HB:=Lib.hid (bch' HB.out hb);clear hb;clear h0 h1 h2 h3 hL;have h0:=HF.out.2 0 _ rfl;have h1:=HF.out.2 1 _ rfl;have h2:=HF.out.2 2 _ rfl;have h3:=HF.out.2 3 _ rfl;have hL:=HF.out.1) | ((with_reducible refine ((H3A.out _ HB.out).mono ?_));rintro e w' ⟨rfl,hb⟩;replace HF:=Lib.hid (HF.out.keep hb);replace HB:=Lib.hid (bch' HB.out hb);clear hb;clear h0 h1 h2 h3 hL;have h0:=HF.out.2 0 _ rfl;have h1:=HF.out.2 1 _ rfl;have h2:=HF.out.2 2 _ rfl;have h3:=HF.out.2 3 _ rfl;have hL:=HF.out.1) | ((with_reducible refine ((H4A.out _ HB.out).mono ?_));rintro e w' ⟨rfl,hb⟩;replace HF:=Lib.hid (HF.out.keep hb);replace HB:=Lib.hid (bch' HB.out hb);clear hb;clear h0 h1 h2 h3 hL;have h0:=HF.out.2 0 _ rfl;have h1:=HF.out.2 1 _ rfl;have h2:=HF.out.2 2 _ rfl;have h3:=HF.out.2 3 _ rfl;have hL:=HF.out.1))
          rw [rounds_succ]
          go_wp2_with (first | ((with_reducible refine ((H1A.out _ HB.out).mono ?_));rintro e w' ⟨rfl,hb⟩;replace HF:=Lib.hid (HF.out.keep hb);replace HB:=Lib.hid (bch' HB.out hb);clear hb;clear h0 h1 h2 h3 hL;have h0:=HF.out.2 0 _ rfl;have h1:=HF.out.2 1 _ rfl;have h2:=HF.out.2 2 _ rfl;have h3:=HF.out.2 3 _ rfl;have hL:=HF.out.1) | ((with_reducible refine ((H2A.out _ HB.out).mono ?_));rintro e w' ⟨rfl,hb⟩;replace HF:=Lib.hid (HF.out.keep hb);replace HB:=Lib.hid (bch' HB.out hb);clear hb;clear h0 h1 h2 h3 hL;have h0:=HF.out.2 0 _ rfl;have h1:=HF.out.2 1 _ rfl;have h2:=HF.out.2 2 _ rfl;have h3:=HF.out.2 3 _ rfl;have hL:=HF.out.1) | ((with_reducible refine ((H3A.out _ HB.out).mono ?_));rintro e w' ⟨rfl,hb⟩;replace HF:=Lib.hid (HF.out.keep hb);replace HB:=Lib.hid (bch' HB.out hb);clear hb;clear h0 h1 h2 h3 hL;have h0:=HF.out.2 0 _ rfl;have h1:=HF.out.2 1 _ rfl;have h2:=HF.out.2 2 _ rfl;have h3:=HF.out.2 3 _ rfl;have hL:=HF.out.1) | ((with_reducible refine ((H4A.out _ HB.out).mono ?_));rintro e w' ⟨rfl,hb⟩;replace HF:=Lib.hid (HF.out.keep hb);replace HB:=Lib.hid (bch' HB.out hb);clear hb;clear h0 h1 h2 h3 hL;have h0:=HF.out.2 0 _ rfl;have h1:=HF.out.2 1 _ rfl;have h2:=HF.out.2 2 _ rfl;have h3:=HF.out.2 3 _ rfl;have hL:=HF.out.1))
          go_ret
          exact ⟨by first | (rw [HE.out];done) | (rw [HE.out];rfl),bch' HB1.out HB.out⟩
      · have HE:Hid (askE l t es ti now = 2):=Lib.hid (askE_t g1 g2 g3)
        rw [g1] at r1
        rw [g2] at r2
        rw [if_neg g3] at r3
        clear g1 g2 g3
        have H1A:=Lib.hid r1;have H2A:=Lib.hid r2;have H3A:=Lib.hid r3
        clear r1 r2 r3 r4
        go_wp2_with fail
        refine wp_loop_rounds 5 ?_
        rw [rounds_succ]
        go_wp2_with (first | ((with_reducible refine ((H1A.out _ HB.out).mono ?_));rintro e w' ⟨rfl,hb⟩;replace HF:=Lib.hid (HF.out.keep hb);replace HB:=Lib.hid (bch' HB.out hb);clear hb;clear h0 h1 h2 h3 hL;have h0:=HF.out.2 0 _ rfl;have h1:=HF.out.2 1 _ rfl;have h2:=HF.out.2 2 _ rfl;have h3:=HF.out.2 3 _ rfl;have hL:=HF.out.1) | ((with_reducible refine ((H2A.out _ HB.out).mono ?_));rintro e w' ⟨rfl,hb⟩;replace HF:=Lib.hid (HF.out.keep hb);replace HB:=Lib.hid (bch' HB.out hb);clear hb;clear h0 h1 h2 h3 hL;have h0:=HF.out.2 0 _ rfl;have h1:=HF.out.2 1 _ rfl;have h2:=HF.out.2 2 _ rfl;have h3:=HF.out.2 3 _ rfl;have hL:=HF.out.1) | ((with_reducible refine ((H3A.out _ HB.out).mono ?_));rintro e w' ⟨rfl,hb⟩;replace HF:=Lib.hid (HF.out.keep hb);replace HB:=Lib.hid (bch' HB.out hb);clear hb;clear h0 h1 h2 h3 hL;have h0:=HF.out.2 0 _ rfl;have h1:=HF.out.2 1 _ rfl;have h2:=HF.out.2 2 _ rfl;have h3:=HF.out.2 3 _ rfl;have hL:=HF.out.1))
        rw [rounds_succ]
        go_wp2_with (first | ((with_reducible refine ((H1A.out _ HB.out).mono ?_));rintro e w' ⟨rfl,hb⟩;replace HF:=Lib.hid (HF.out.keep hb);replace HB:=Lib.hid (bch' HB.out hb);clear hb;clear h0 h1 h2 h3 hL;have h0:=HF.out.2 0 _ rfl;have h1:=HF.out.2 1 _ rfl;have h2:=HF.out.2 2 _ rfl;have h3:=HF.out.2 3 _ rfl;have hL:=HF.out.1) | ((with_reducible refine ((H2A.out _ HB.out).mono ?_));rintro e w' ⟨rfl,hb⟩;replace HF:=Lib.hid (HF.out.keep hb);replace HB:=Lib.hid (bch' HB.out hb);clear hb;clear h0 h1 h2 h3 hL;have h0:=HF.out.2 0 _ rfl;have h1:=HF.out.2 1 _ rfl;have h2:=HF.out.2 2 _ rfl;have h3:=HF.out.2 3 _ rfl;have hL:=HF.out.1) | ((with_reducible refine ((H3A.out _ HB.out).mono ?_));rintro e w' ⟨rfl,hb⟩;replace HF:=Lib.hid (HF.out.keep hb);replace HB:=Lib.hid (bch' HB.out hb);clear hb;clear h0 h1 h2 h3 hL;have h0:=HF.out.2 0 _ rfl;have h1:=HF.out.2 1 _ rfl;have h2:=HF.out.2 2 _ rfl;have h3:=HF.out.2 3 _ rfl;have hL:=HF.out.1))
        rw [rounds_succ]
        go_wp2_with (first | ((with_reducible refine ((H1A.out _ HB.out).mono ?_));rintro e w' ⟨rfl,hb⟩;replace HF:=Lib.hid (HF.out.keep hb);replace HB:=Lib.hid (bch' HB.out hb);clear hb;clear h0 h1 h2 h3 hL;have h0:=HF.out.2 0 _ rfl;have h1:=HF.out.2 1 _ rfl;have h2:=HF.out.2 2 _ rfl;have h3:=HF.out.2 3 _ rfl;have hL:=HF.out.1) | ((with_reducible refine ((H2A.out _ HB.out).mono ?_));rintro e w' ⟨rfl,hb⟩;replace HF:=Lib.hid (HF.out.keep hb);replace HB:=Lib.hid (bch' HB.out hb);clear hb;clear h0 h1 h2 h3 hL;have h0:=HF.out.2 0 _ rfl;have h1:=HF.out.2 1 _ rfl;have h2:=HF.out.2 2 _ rfl;have h3:=HF.out.2 3 _ rfl;have hL:=HF.out.1) | ((with_reducible refine ((H3A.out _ HB.out).mono ?_));rintro e w' ⟨rfl,hb⟩;replace HF:=Lib.hid (HF.out.keep hb);replace HB:=Lib.hid (bch' HB.out hb);clear hb;clear h0 h1 h2 h3 hL;have h0:=HF.out.2 0 _ rfl;have h1:=HF.out.2 1 _ rfl;have h2:=HF.out.2 2 _ rfl;have h3:=HF.out.2 3 _ rfl;have hL:=HF.out.1))
        go_ret
        exact ⟨by first | (rw [HE.out];done) | (rw [HE.out];rfl),bch' HB1.out HB.out⟩
    · have HE:Hid (askE l t es ti now = entsE es):=Lib.hid (askE_e g1 g2)
      rw [g1] at r1
      clear g1
      have hne:((entsE es:Int) != 0) = true:=by simpa using g2
      generalize entsE es = m at *
      clear g2
      have H1A:=Lib.hid r1;have H2A:=Lib.hid r2
      clear r1 r2 r3 r4
      go_wp2_with fail
      refine wp_loop_rounds 5 ?_
      rw [rounds_succ]
      go_wp2_with (first | ((with_reducible refine ((H1A.out _ HB.out).mono ?_));rintro e w' ⟨rfl,hb⟩;replace HF:=Lib.hid (HF.out.keep hb);replace HB:=Lib.hid (bch' HB.out hb);clear hb;clear h0 h1 h2 h3 hL;have h0:=HF.out.2 0 _ rfl;have h1:=HF.out.2 1 _ rfl;have h2:=HF.out.2 2 _ rfl;have h3:=HF.out.2 3 _ rfl;have hL:=HF.out.1) | ((with_reducible refine ((H2A.out _ HB.out).mono ?_));rintro e w' ⟨rfl,hb⟩;replace HF:=Lib.hid (HF.out.keep hb);replace HB:=Lib.hid (bch' HB.out hb);clear hb;clear h0 h1 h2 h3 hL;have h0:=HF.out.2 0 _ rfl;have h1:=HF.out.2 1 _ rfl;have h2:=HF.out.2 2 _ rfl;have h3:=HF.out.2 3 _ rfl;have hL:=HF.out.1))
      rw [rounds_succ]
      go_wp2_with (first | ((with_reducible refine ((H1A.out _ HB.out).mono ?_));rintro e w' ⟨rfl,hb⟩;replace HF:=Lib.hid (HF.out.keep hb);replace HB:=Lib.hid (bch' HB.out hb);clear hb;clear h0 h1 h2 h3 hL;have h0:=HF.out.2 0 _ rfl;have h1:=HF.out.2 1 _ rfl;have h2:=HF.out.2 2 _ rfl;have h3:=HF.out.2 3 _ rfl;have hL:=HF.out.1) | ((with_reducible refine ((H2A.out _ HB.out).mono ?_));rintro e w' ⟨rfl,hb⟩;replace HF:=Lib.hid (HF.out.keep hb);replace HB:=Lib.hid (bch' HB.out hb);clear hb;clear h0 h1 h2 h3 hL;have h0:=HF.out.2 0 _ rfl;have h1:=HF.out.2 1 _ rfl;have h2:=HF.out.2 2 _ rfl;have h3:=HF.out.2 3 _ rfl;have hL:=HF.out.1))
      go_ret
      exact ⟨by first | (rw [HE.out];done) | (rw [HE.out];rfl),bch' HB1.out HB.out⟩
  · have HE:Hid (askE l t es ti now = hnsE l):=Lib.hid (askE_h g1)
    have hne:((hnsE l:Int) != 0) = true:=by simpa using g1
    generalize hnsE l = m at *
    clear g1
    have H1A:=Lib.hid r1
    clear r1 r2 r3 r4
    go_wp2_with fail
    refine wp_loop_rounds 5 ?_
    rw [rounds_succ]
    go_wp2_with (first | ((with_reducible refine ((H1A.out _ HB.out).mono ?_));rintro e w' ⟨rfl,hb⟩;replace HF:=Lib.hid (HF.out.keep hb);replace HB:=Lib.hid (bch' HB.out hb);clear hb;clear h0 h1 h2 h3 hL;have h0:=HF.out.2 0 _ rfl;have h1:=HF.out.2 1 _ rfl;have h2:=HF.out.2 2 _ rfl;have h3:=HF.out.2 3 _ rfl;have hL:=HF.out.1))
    go_ret
    exact ⟨by first | (rw [HE.out];done) | (rw [HE.out];rfl),bch' HB1.out HB.out⟩
end Go.Proofs.YtmjkenlifgmeeaaGreatDoor
set_option maxRecDepth 100000
set_option maxHeartbeats 8000000
namespace Go.Proofs.YtmjkenlifgmeeaaGreatDoor
open Go.RowKit Go.Shelf Lum
open Go.Lib (decDigits itoa)
attribute [local go_sem] bs_get bs_extract_end bs_extract_from bs_extract bs_append
theorem cl_m1 (x : Hnd) (l : List Hnd) (p : Option Addr) (c B1 B2 : Nat) (w : World) (hv : HndsAt w (.slice p l.length c) l) (hs : AscK Hnd.ky l) (hn : l.length ≤ 1000000) (hB1 : B1 < w.heap.size) (hB2 : B2 < w.heap.size) (c1 : w.cell? ⟨B1, 0, none⟩ = some (.slice p l.length c)) (c2 : w.cell? ⟨B2, 0, none⟩ = some (.func (.func 34) #[] #[])) :
    Calls Tryz.prog 74 #[.agg #[.int .i64 (x.ch),.int .i64 (x.at_),.string ⟨x.fr.toArray⟩,.int .i64 (x.pa),.int .i64 (x.lv),.int .i64 (x.st),.int .i64 (x.ti)],.pointer (some ⟨B1,0,none⟩),.pointer (some ⟨B2,0,none⟩)] w fun e w' => e = .returned (.bool (l.any (fun y => decide (x.ky = y.ky)))) ∧ Below w.heap.size w w':=by
  obtain ⟨i,hit,hbl⟩:=belP_ex hs x.ky
  rw [belP_any hbl]
  have hpl:=fun W (h:HndsAt W (.slice p l.length c) l) => own_pplace_at l (.slice p l.length c) x.ch x.at_ W h hs hn hbl
  have ho:=fun W => own_pown x.ch x.at_ x.fr x.pa x.lv x.st x.ti W
  have HV:=Lib.hid hv;have HL1:=Lib.hid hB1;have HL2:=Lib.hid hB2;have HC1:=Lib.hid c1;have HC2:=Lib.hid c2;clear hv hB1 hB2 c1 c2 hs hn hbl
  have HPL:=Lib.hid hpl;clear hpl
  have HO:=Lib.hid ho;clear ho
  have hal:=(Below.refl w.heap.size w).alloc (Nat.le_refl _) (.cells #[.int .i64 (x.ch),.int .i64 (x.at_),.string ⟨x.fr.toArray⟩,.int .i64 (x.pa),.int .i64 (x.lv),.int .i64 (x.st),.int .i64 (x.ti)] 77)
  have HB:=Lib.hid hal;clear hal
  have HX:=Lib.hid (Blk.new w 77 #[.int .i64 (x.ch),.int .i64 (x.at_),.string ⟨x.fr.toArray⟩,.int .i64 (x.pa),.int .i64 (x.lv),.int .i64 (x.st),.int .i64 (x.ti)])
  go_enter Tryz.func74,Tryz.ntmps74
  go_upto_region 1 with fail
  obtain ⟨W2,hW2⟩:∃ X,X = w.alloc (.cells #[.int .i64 (x.ch),.int .i64 (x.at_),.string ⟨x.fr.toArray⟩,.int .i64 (x.pa),.int .i64 (x.lv),.int .i64 (x.st),.int .i64 (x.ti)] 77):=⟨_,rfl⟩
  rw [← hW2] at HB HX ⊢
  clear hW2
  have f0:=fun p:BelowOf _ => (HX.out.keep p.h).c7.1
  have f1:=fun p:BelowOf _ => (HX.out.keep p.h).c7.2.1
  have f2:=fun p:BelowOf _ => (HX.out.keep p.h).c7.2.2.1
  have f3:=fun p:BelowOf _ => (HX.out.keep p.h).c7.2.2.2.1
  have f4:=fun p:BelowOf _ => (HX.out.keep p.h).c7.2.2.2.2.1
  have f5:=fun p:BelowOf _ => (HX.out.keep p.h).c7.2.2.2.2.2.1
  have f6:=fun p:BelowOf _ => (HX.out.keep p.h).c7.2.2.2.2.2.2.1
  have m0:=fun p:BelowOf _ => ((bch' HB.out p.h).cell (p:=⟨B1,0,none⟩) HL1.out).trans HC1.out
  have m1:=fun p:BelowOf _ => ((bch' HB.out p.h).cell (p:=⟨B2,0,none⟩) HL2.out).trans HC2.out
  refine wp_region_WQ (by kernel_rfl) (by kernel_rfl) ?_
  repeat (refine WQ.step (fun K hK => ?_);go_simp;first | (refine hK.out _ ?_;clear hK K) | (apply Exists.intro;refine ⟨fun _ => ?_,hK.out _ ?_⟩;(first | rfl | (go_at_call 34;exact calls_below_of _ (HO.out _)) | (go_at_call 33;exact calls_below_of _ (HPL.out _ (HndsAt.kept HV.out (bch' HB.out (BelowOf.h _))))));clear hK K))
  refine WQ.nil ?_
  intro _ hw'
  obtain ⟨⟨wq,hbq⟩,hw2⟩:=hw'
  subst hw2
  replace HB:=Lib.hid (bch' HB.out hbq)
  clear f0 f1 f2 f3 f4 f5 f6 m0 m1
  go_wp2_with fail
  go_ret
  exact ⟨rfl,HB.out⟩
theorem own_pmerged (l f : List Hnd) (u : Value) (p2 : Option Addr) (c2 : Nat) (w : World) (hu : HndsAt w u l) (hR2 : RowX encHd 7 w p2 f) (hc0 : p2 = none → c2 = 0) (hl : AscK Hnd.ky l) (hf : AscK Hnd.ky f) (hnl : l.length ≤ 400000) (hnf : f.length ≤ 400000) :
    Calls Tryz.prog 36 #[u,.slice p2 f.length c2,.func (.func 34) #[] #[]] w fun e w' => ∃ pp cc,e = .returned (.slice pp (putsK Hnd.ky l f).length cc) ∧ OwnR encHd 7 w.heap.size 77 w' pp cc (putsK Hnd.ky l f) ∧ Below w.heap.size w w':=by
  obtain ⟨p1,c1,rfl,hR1⟩:=hu
  have HR1:=Lib.hid hR1;have HR2:=Lib.hid hR2;clear hR1 hR2
  have H0:=Lib.hid (CellsAt.new w [.slice p2 f.length c2] 24)
  have HB:=Lib.hid ((Below.refl w.heap.size w).alloc (Nat.le_refl _) (.cells #[.slice p2 f.length c2] 24))
  have H1:=Lib.hid (CellsAt.new ((w.alloc (.cells #[.slice p2 f.length c2] 24))) [.func (.func 34) #[] #[]] 83)
  replace H0:=Lib.hid (H0.out.alloc (.cells #[.func (.func 34) #[] #[]] 83))
  replace HB:=Lib.hid (HB.out.alloc (by simp) (.cells #[.func (.func 34) #[] #[]] 83))
  simp only [World.size_alloc] at H1
  have a0:=H0.out.2 0 _ rfl;have aL:=H0.out.1
  have b0:=H1.out.2 0 _ rfl;have bL:=H1.out.1
  go_enter Tryz.func36,Tryz.ntmps36
  go_upto_region 1 with fail
  generalize (w.alloc (.cells #[.slice p2 f.length c2] 24)).alloc (.cells #[.func (.func 34) #[] #[]] 83) = W0 at *
  have HV2:=Lib.hid (HndsAt.kept (show HndsAt w (.slice p2 f.length c2) f from ⟨_,_,rfl,HR2.out⟩) HB.out)
  have HN0:Hid (w.heap.size + 2 ≤ W0.heap.size):=Lib.hid (by have:=H1.out.1;omega)
  have hcl:=own_hclone W0 l p1 c1 (HR1.out.kept HB.out) (by omega)
  have hde:=fun (W:World) (pp:Option Addr) (cc:Nat) (h1:OwnR encHd 7 W0.heap.size 77 W pp cc l) (h2:Below W0.heap.size W0 W) => hnd2_delete 74 (.pointer (some ⟨w.heap.size,0,none⟩)) (.pointer (some ⟨w.heap.size + 1,0,none⟩)) l (fun x => f.any (fun y => decide (x.ky = y.ky))) pp cc W0.heap.size W h1 h2.size (by omega) (enters_of Tryz.func74 (by kernel_rfl) rfl) (fun x _ W2 hW => by
    have h3:=h2.trans hW
    exact cl_m1 x f p2 c2 _ _ W2 (HndsAt.kept HV2.out h3) hf (by omega) (H0.out.keep h3).1 (H1.out.keep h3).1 ((H0.out.keep h3).2 0 _ rfl) ((H1.out.keep h3).2 0 _ rfl))
  have HCL:=Lib.hid hcl;have HDE:=Lib.hid hde;clear hcl hde
  obtain ⟨i0,hi,hz0,hz1,hz2⟩:=info_parts info_hd
  have HB1:=HB;clear HB
  have HB:=Lib.hid (Below.refl W0.heap.size W0)
  have HFL:Hid ((l.filter (fun x => !f.any (fun y => decide (x.ky = y.ky)))).length + f.length ≤ 1000000):=Lib.hid (by have:=List.length_filter_le (fun x:Hnd => !f.any (fun y => decide (x.ky = y.ky))) l;omega)
  by_cases h0:f = []
  · have hfl:f.length = 0:=by rw [h0];rfl
    have HF0:=Lib.hid h0;clear h0
    obtain ⟨N,hN⟩:∃ N,N = ((l.filter (fun x => !f.any (fun y => decide (x.ky = y.ky))))).length:=⟨_,rfl⟩
    have hso:=fun (W:World) (p:Option Addr) (c:Nat) (h1:OwnR encHd 7 W0.heap.size 77 W p c (l.filter (fun x => !f.any (fun y => decide (x.ky = y.ky))))) (h2:Below W0.heap.size W0 W) => own_hsort (l.filter (fun x => !f.any (fun y => decide (x.ky = y.ky)))) W p c W0.heap.size (w.heap.size + 1) h1 (by have:=HFL.out;first | omega | (rw [List.length_append];omega)) h2.size (by have:=HN0.out;omega) ((H1.out.keep h2).2 0 _ rfl)
    rw [← hN] at hso
    have HN:=Lib.hid hN;clear hN
    have HSO:=Lib.hid hso;clear hso
    go_upto_region 2 with (first | (with_reducible refine ((HCL.out).mono ?_);rintro e w3 ⟨pp,cc,rfl,ho,hb⟩;have HO:=Lib.hid ho;have HB3:=Lib.hid hb;clear ho hb) | (with_reducible refine ((HDE.out _ _ _ HO.out HB3.out).mono ?_);rintro e w4 ⟨pd,cd,rfl,ho,hb⟩;clear HO;have HO:=Lib.hid ho;have HB4:=Lib.hid (HB3.out.trans hb);clear ho hb))
    have a0:=(H0.out.keep HB4.out).2 0 _ rfl
    have al:=(H0.out.keep HB4.out).1
    have hx0:w4.cell? ⟨w.heap.size,0,none⟩ = some (.slice p2 0 c2):=by have h:=a0;rwa [hfl] at h
    clear a0
    go_upto_region 3 with (first | (at_builtin;refine wpList_appE0 rfl (.tmp 12) (.tmp 13) 24 rfl W0.heap.size 77 i0 (.agg #[.int .i64 0,.int .i64 0,.string ⟨#[]⟩,.int .i64 0,.int .i64 0,.int .i64 0,.int .i64 0]) 64 Tryz.underlying24 hi hz0 hz1 hz2 rfl (by decide) (by decide) pd cd _ (l.filter (fun x => !f.any (fun y => decide (x.ky = y.ky)))) rfl w4 p2 c2 rfl HO.out rfl hc0 (by have:=HFL.out;omega) HB4.out.size ?_;intro p5 c5 w5 hO5 hb5;clear HO;have HO:=Lib.hid hO5;have HB5:=Lib.hid (HB4.out.trans hb5);clear hO5 hb5))
    clear al hx0
    have HLN:Hid (((l.filter (fun x => !f.any (fun y => decide (x.ky = y.ky))))).length = N):=Lib.hid (by rw [HN.out])
    rw [HLN.out]
    go_wp2_with (first | (with_reducible refine ((HSO.out _ _ _ HO.out HB5.out).mono ?_);rintro e w6 ⟨rfl,s,hp,hs,ho,hb⟩;have HP:=Lib.hid hp;have HS:=Lib.hid hs;have HO6:=Lib.hid ho;have HB6:=Lib.hid (HB5.out.trans hb);clear hp hs ho hb))
    go_ret
    have HL:Hid (s = putsK Hnd.ky l f):=Lib.hid (merged_puts hl hf (by have h9:=HP.out;rw [HF0.out,List.append_nil];rw [HF0.out] at h9;exact h9) HS.out)
    have hle:N = (putsK Hnd.ky l f).length:=by rw [HN.out,← HL.out];exact HP.out.length_eq.symm
    rw [hle]
    rw [HL.out] at HO6
    exact ⟨p5,c5,rfl,HO6.out.lower (by have:=HN0.out;omega),bch' HB1.out HB6.out⟩
  · obtain ⟨b,off,rfl,hbb,hCC⟩:=HR2.out h0
    have HBb:=Lib.hid hbb;have HCC:=Lib.hid hCC;clear hbb hCC
    obtain ⟨N,hN⟩:∃ N,N = (((l.filter (fun x => !f.any (fun y => decide (x.ky = y.ky)))) ++ f)).length:=⟨_,rfl⟩
    have hso:=fun (W:World) (p:Option Addr) (c:Nat) (h1:OwnR encHd 7 W0.heap.size 77 W p c ((l.filter (fun x => !f.any (fun y => decide (x.ky = y.ky)))) ++ f)) (h2:Below W0.heap.size W0 W) => own_hsort ((l.filter (fun x => !f.any (fun y => decide (x.ky = y.ky)))) ++ f) W p c W0.heap.size (w.heap.size + 1) h1 (by have:=HFL.out;first | omega | (rw [List.length_append];omega)) h2.size (by have:=HN0.out;omega) ((H1.out.keep h2).2 0 _ rfl)
    rw [← hN] at hso
    have HN:=Lib.hid hN;clear hN
    have HSO:=Lib.hid hso;clear hso
    go_upto_region 2 with (first | (with_reducible refine ((HCL.out).mono ?_);rintro e w3 ⟨pp,cc,rfl,ho,hb⟩;have HO:=Lib.hid ho;have HB3:=Lib.hid hb;clear ho hb) | (with_reducible refine ((HDE.out _ _ _ HO.out HB3.out).mono ?_);rintro e w4 ⟨pd,cd,rfl,ho,hb⟩;clear HO;have HO:=Lib.hid ho;have HB4:=Lib.hid (HB3.out.trans hb);clear ho hb))
    have a0:=(H0.out.keep HB4.out).2 0 _ rfl
    have al:=(H0.out.keep HB4.out).1
    have HFC:Hid (∀ (j:Nat) (u:Value),(f.flatMap encHd)[j]? = some u → w4.cell? ⟨b,off + j,none⟩ = some u):=Lib.hid (by have hb9:=bch' HB1.out HB4.out;exact flat_cell encHd_len f (fun j => w4.cell? ⟨b,off + j,none⟩) (fun i hi j v hv => by have:=(hb9.cell (p:=⟨b,off + i * 7 + j,none⟩) HBb.out).trans (HCC.out i hi j v hv);rwa [Nat.add_assoc] at this))
    go_upto_region 3 with (first | (at_builtin;refine wpList_appL rfl (.tmp 12) (.tmp 13) 24 rfl W0.heap.size 77 i0 (.agg #[.int .i64 0,.int .i64 0,.string ⟨#[]⟩,.int .i64 0,.int .i64 0,.int .i64 0,.int .i64 0]) 64 Tryz.underlying24 hi hz0 hz1 hz2 rfl (by decide) (by decide) pd cd _ (l.filter (fun x => !f.any (fun y => decide (x.ky = y.ky)))) rfl w4 f b off c2 encHd_len HFC.out (fun y _ => encHd_one y) rfl HO.out rfl (by have:=HFL.out;omega) HB4.out.size ?_;intro p5 c5 w5 hO5 hb5;clear HO;have HO:=Lib.hid hO5;have HB5:=Lib.hid (HB4.out.trans hb5);clear hO5 hb5))
    clear a0 al
    have HLN:Hid (((l.filter (fun x => !f.any (fun y => decide (x.ky = y.ky))))).length + f.length = N):=Lib.hid (by rw [HN.out];rw [List.length_append])
    rw [HLN.out]
    go_wp2_with (first | (with_reducible refine ((HSO.out _ _ _ HO.out HB5.out).mono ?_);rintro e w6 ⟨rfl,s,hp,hs,ho,hb⟩;have HP:=Lib.hid hp;have HS:=Lib.hid hs;have HO6:=Lib.hid ho;have HB6:=Lib.hid (HB5.out.trans hb);clear hp hs ho hb))
    go_ret
    have HL:Hid (s = putsK Hnd.ky l f):=Lib.hid (merged_puts hl hf (by exact HP.out) HS.out)
    have hle:N = (putsK Hnd.ky l f).length:=by rw [HN.out,← HL.out];exact HP.out.length_eq.symm
    rw [hle]
    rw [HL.out] at HO6
    exact ⟨p5,c5,rfl,HO6.out.lower (by have:=HN0.out;omega),bch' HB1.out HB6.out⟩
end Go.Proofs.YtmjkenlifgmeeaaGreatDoor
namespace Lum
open Go Go.RowKit Go.Shelf
open Go.Lib (decDigits itoa)
theorem ownR_far {β:Type} {enc:β → List Value} {k base:Nat} {e:TypeId} {W:World} {p:Option Addr} {c g:Nat} {l:List β} (h:OwnR enc k base e W p c l) (hg:∀ ad,p = some ad → ad.block ≠ g) (i:Nat) (v:Value):OwnR enc k base e (W.setCell ⟨g,i,none⟩ v) p c l:=by
  refine ⟨h.1,h.2.imp id fun ⟨b,cap,cur,h1,h2,h3,h4⟩ => ⟨b,cap,cur,h1,h2,?_,h4⟩⟩
  injection h1 with h1
  rw [Below.heap_setCell W ⟨g,i,none⟩ v b (hg _ h1)];exact h3
end Lum
namespace Go.Proofs.YtmjkenlifgmeeaaGreatDoor
open Go.RowKit Go.Shelf Lum
open Go.Lib (decDigits itoa)
attribute [local go_sem] bs_get bs_extract_end bs_extract_from bs_extract bs_append
end Go.Proofs.YtmjkenlifgmeeaaGreatDoor
