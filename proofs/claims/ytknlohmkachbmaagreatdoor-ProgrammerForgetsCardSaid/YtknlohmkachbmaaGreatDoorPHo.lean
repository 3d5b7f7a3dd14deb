/-
  
-/
import Derived.Test.YtknlohmkachbmaaGreatDoorPHl
set_option linter.unusedVariables false
set_option linter.unusedSimpArgs false
set_option maxRecDepth 100000
set_option maxHeartbeats 4000000
namespace Lum
open Go Go.RowKit Go.Shelf
open Go.Lib (decDigits itoa)
def AmtsAt (W:World) (v:Value) (l:List Amt):Prop:=∃ p c,v = .slice p l.length c ∧ RowX encAm 3 W p l
theorem AmtsAt.kept {W W':World} {v:Value} {l:List Amt} (h:AmtsAt W v l) (hb:Below W.heap.size W W'):AmtsAt W' v l:=by
  obtain ⟨p,c,rfl,h⟩:=h
  exact ⟨p,c,rfl,h.kept hb⟩
def fitL : List Ent → List Amt → Int
  | e :: r,a :: s => if a.ky = e.ky then (if levE a.le = 0 then fitL r s else levE a.le) else 9
  | _,_ => 0
def fitE (es:List Ent) (l:List Amt):Int:=if l.length = es.length then fitL es l else 14
theorem fitL_at {es:List Ent} {l:List Amt} {k:Nat} (h1:k < es.length) (h2:k < l.length):fitL (es.drop k) (l.drop k) = if (l[k]'h2).ky = (es[k]'h1).ky then (if levE (l[k]'h2).le = 0 then fitL (es.drop (k + 1)) (l.drop (k + 1)) else levE (l[k]'h2).le) else 9:=by
  rw [List.drop_eq_getElem_cons h1,List.drop_eq_getElem_cons h2];rfl
theorem fitL_end {es:List Ent} {l:List Amt} (h:l.length = es.length):fitL (es.drop l.length) (l.drop l.length) = 0:=by
  rw [h,List.drop_length];rfl
end Lum
namespace Go.Proofs.YtknlohmkachbmaaGreatDoor
open Go.RowKit Go.Shelf Lum
open Go.Lib (decDigits itoa)
attribute [local go_sem] bs_get bs_extract_end bs_extract_from bs_extract bs_append
theorem r29_fits (es : List Ent) (l : List Amt) (u v : Value) (w : World) (he : EntsAt w u es) (hv : AmtsAt w v l) (hn : l.length ≤ 1000000) (hlen : ∀ y ∈ l, y.le.length ≤ 1000) :
    Calls Tryz.prog 70 #[u,v] w fun e w' => e = .returned (.int .i64 (fitE es l)) ∧ Below w.heap.size w w':=by
  obtain ⟨p1,c1,rfl,hR1⟩:=he
  obtain ⟨p2,c2,rfl,hR2⟩:=hv
  have hv1:=Lib.hid hR1;have hv2:=Lib.hid hR2;have HFEW:=Lib.hid hn;have HLEN:=Lib.hid hlen;clear hR1 hR2 hn hlen
  have HB:=Lib.hid (Below.refl w.heap.size w)
  by_cases hl:l.length = es.length
  · have hll:((l.length:Int) != (es.length:Int)) = false:=by rw [bne_eq_false_iff_eq];omega
    rw [show fitE es l = fitL es l from if_pos hl]
    have HLE:=Lib.hid hl
    clear hl
    go_enter Tryz.func70,Tryz.ntmps70
    go_wp2_with fail
    go_loopw [5] (fun s wr => ∃ k:Nat,s = .int .i64 (k:Int) ∧ k ≤ l.length ∧ Hid (fitL (es.drop k) (l.drop k) = fitL es l) ∧ Hid (Below w.heap.size w wr)) (fun s _ => l.length - (intOf s).toNat)
    case atStart => exact ⟨0,rfl,by omega,Lib.hid rfl,HB⟩
    case round =>
      obtain ⟨k,rfl,hk9,HS,HB2⟩:=hrel
      clear HB
      have HB:=HB2;clear HB2
      by_cases hkl:k < l.length
      · have hke:k < es.length:=by have:=HLE.out;omega
        have hlt:(k:Int) < (l.length:Int):=by omega
        have hlt2:(k:Int) < (es.length:Int):=by omega
        have hk0:(0:Int) ≤ (k:Int):=by omega
        have hlo:k * 4 < 9223372036854775807:=by have:=HFEW.out;omega
        have hlo2:k * 3 < 9223372036854775807:=by have:=HFEW.out;omega
        have hun:IntKind.i64.wrap ((k:Int) + 1) = (k:Int) + 1:=IntWalk.i64_in _ (by have:=HFEW.out;omega)
        obtain ⟨b1,o1,rfl,hb1,hC1⟩:=hv1.out (fun h => by subst h;exact absurd hke (Nat.not_lt_zero _))
        obtain ⟨b2,o2,rfl,hb2,hC2⟩:=hv2.out (fun h => by subst h;exact absurd hkl (Nat.not_lt_zero _))
        obtain ⟨x,hx⟩:∃ x,x = es[k]'hke:=⟨_,rfl⟩
        obtain ⟨y,hy⟩:∃ y,y = l[k]'hkl:=⟨_,rfl⟩
        have hc1:=hC1 k hke
        have hc2:=hC2 k hkl
        rw [← hx] at hc1
        rw [← hy] at hc2
        have hle:=HLEN.out y (by rw [hy];exact List.getElem_mem hkl)
        have hst:=fitL_at hke hkl
        rw [← hx,← hy,HS.out] at hst
        have HCX:=Lib.hid hc1;have HCY:=Lib.hid hc2;have HB1:=Lib.hid hb1;have HB2_:=Lib.hid hb2
        clear hc1 hc2 hb1 hb2 hC1 hC2 hx hy
        have hlv:=fun W => r3_level y.le W hle
        go_upto_region 6 with fail
        by_cases hq:(y.ch,y.at_) = (x.ch,x.at_)
        · have hbb:((y.ch == x.ch) && (y.at_ == x.at_)) = true:=by rw [Prod.mk.injEq] at hq;simp [hq.1,hq.2]
          have hneqr:=fun W => neq_par W y.ch y.at_ x.ch x.at_
          rw [hbb] at hneqr
          (try simp only [Bool.not_true] at hneqr)
          rw [if_pos (show y.ky = x.ky from hq)] at hst
          clear hq hbb
          have e0:=fun p:BelowOf _ => ((bch' HB.out p.h).cell (p:=⟨b1,o1 + k * 4,none⟩) HB1.out).trans (HCX.out 0 _ rfl)
          have e1:=fun p:BelowOf _ => ((bch' HB.out p.h).cell (p:=⟨b1,o1 + k * 4 + 1,none⟩) HB1.out).trans (HCX.out 1 _ rfl)
          have e2:=fun p:BelowOf _ => ((bch' HB.out p.h).cell (p:=⟨b1,o1 + k * 4 + 2,none⟩) HB1.out).trans (HCX.out 2 _ rfl)
          have e3:=fun p:BelowOf _ => ((bch' HB.out p.h).cell (p:=⟨b1,o1 + k * 4 + 3,none⟩) HB1.out).trans (HCX.out 3 _ rfl)
          have r0:=fun p:BelowOf _ => ((bch' HB.out p.h).cell (p:=⟨b2,o2 + k * 3,none⟩) HB2_.out).trans (HCY.out 0 _ rfl)
          have r1:=fun p:BelowOf _ => ((bch' HB.out p.h).cell (p:=⟨b2,o2 + k * 3 + 1,none⟩) HB2_.out).trans (HCY.out 1 _ rfl)
          have r2:=fun p:BelowOf _ => ((bch' HB.out p.h).cell (p:=⟨b2,o2 + k * 3 + 2,none⟩) HB2_.out).trans (HCY.out 2 _ rfl)
          have z1:=fun p:BelowOf _ => Nat.lt_of_lt_of_le HB1.out (bch' HB.out p.h).size
          have z2:=fun p:BelowOf _ => Nat.lt_of_lt_of_le HB2_.out (bch' HB.out p.h).size
          refine wp_region_WQ (by kernel_rfl) (by kernel_rfl) ?_
          repeat (refine WQ.step (fun K hK => ?_);go_simp;first | (refine hK.out _ ?_;clear hK K) | (apply Exists.intro;refine ⟨fun _ => ?_,hK.out _ ?_⟩;(first | rfl);clear hK K))
          refine WQ.nil ?_
          intro Wq hw'
          obtain ⟨⟨wq,hbq⟩,hw2⟩:=hw'
          subst hw2
          replace HB:=Lib.hid (bch' HB.out hbq)
          clear e0 e1 e2 e3 r0 r1 r2 z1 z2
          clear hneqr
          have HP0:=HB
          clear HP0
          have y0:Wq.cell? ⟨b2,o2 + k * 3,none⟩ = some (.int .i64 y.ch):=(HB.out.cell (p:=⟨b2,o2 + k * 3 + 0,none⟩) HB2_.out).trans (HCY.out 0 _ rfl)
          have y1:Wq.cell? ⟨b2,o2 + k * 3 + 1,none⟩ = some (.int .i64 y.at_):=(HB.out.cell (p:=⟨b2,o2 + k * 3 + 1,none⟩) HB2_.out).trans (HCY.out 1 _ rfl)
          have y2:Wq.cell? ⟨b2,o2 + k * 3 + 2,none⟩ = some (.string ⟨y.le.toArray⟩):=(HB.out.cell (p:=⟨b2,o2 + k * 3 + 2,none⟩) HB2_.out).trans (HCY.out 2 _ rfl)
          have hbr:b2 < Wq.heap.size:=Nat.lt_of_lt_of_le HB2_.out HB.out.size
          by_cases hz:levE y.le = 0
          · rw [if_pos hz] at hst
            have HS2:Hid (fitL (es.drop (k + 1)) (l.drop (k + 1)) = fitL es l):=Lib.hid hst.symm
            rw [hz] at hlv
            have HLV:=Lib.hid hlv;clear hlv hst hz hle
            go_wp2_with (first | (with_reducible refine ((HLV.out _).mono ?_);rintro e w' ⟨rfl,hb⟩;replace HB:=Lib.hid (bch' HB.out hb);clear hb))
            go_roundw
            case rel => exact ⟨k + 1,by first | rfl | simp,by omega,HS2,HB⟩
            case measure => first | (simp [intOf];done) | (simp [intOf];omega)
          · rw [if_neg hz] at hst
            have HE:Hid (fitL es l = levE y.le):=Lib.hid hst
            have hne:((levE y.le:Int) != 0) = true:=by simpa using hz
            clear hst hz hle
            generalize levE y.le = m at *
            have HLV:=Lib.hid hlv;clear hlv
            go_wp2_with (first | (with_reducible refine ((HLV.out _).mono ?_);rintro e w' ⟨rfl,hb⟩;replace HB:=Lib.hid (bch' HB.out hb);clear hb))
            go_ret
            exact ⟨by first | (rw [HE.out];done) | (rw [HE.out];rfl),HB.out⟩
        · have hbb:((y.ch == x.ch) && (y.at_ == x.at_)) = false:=by rw [Bool.eq_false_iff];intro h;rw [Bool.and_eq_true,beq_iff_eq,beq_iff_eq] at h;exact hq (Prod.ext h.1 h.2)
          have hneqr:=fun W => neq_par W y.ch y.at_ x.ch x.at_
          rw [hbb] at hneqr
          (try simp only [Bool.not_false] at hneqr)
          rw [if_neg (show ¬ y.ky = x.ky from hq)] at hst
          have HE:Hid (fitL es l = 9):=Lib.hid hst
          clear hq hbb hst hlv hle
          have e0:=fun p:BelowOf _ => ((bch' HB.out p.h).cell (p:=⟨b1,o1 + k * 4,none⟩) HB1.out).trans (HCX.out 0 _ rfl)
          have e1:=fun p:BelowOf _ => ((bch' HB.out p.h).cell (p:=⟨b1,o1 + k * 4 + 1,none⟩) HB1.out).trans (HCX.out 1 _ rfl)
          have e2:=fun p:BelowOf _ => ((bch' HB.out p.h).cell (p:=⟨b1,o1 + k * 4 + 2,none⟩) HB1.out).trans (HCX.out 2 _ rfl)
          have e3:=fun p:BelowOf _ => ((bch' HB.out p.h).cell (p:=⟨b1,o1 + k * 4 + 3,none⟩) HB1.out).trans (HCX.out 3 _ rfl)
          have r0:=fun p:BelowOf _ => ((bch' HB.out p.h).cell (p:=⟨b2,o2 + k * 3,none⟩) HB2_.out).trans (HCY.out 0 _ rfl)
          have r1:=fun p:BelowOf _ => ((bch' HB.out p.h).cell (p:=⟨b2,o2 + k * 3 + 1,none⟩) HB2_.out).trans (HCY.out 1 _ rfl)
          have r2:=fun p:BelowOf _ => ((bch' HB.out p.h).cell (p:=⟨b2,o2 + k * 3 + 2,none⟩) HB2_.out).trans (HCY.out 2 _ rfl)
          have z1:=fun p:BelowOf _ => Nat.lt_of_lt_of_le HB1.out (bch' HB.out p.h).size
          have z2:=fun p:BelowOf _ => Nat.lt_of_lt_of_le HB2_.out (bch' HB.out p.h).size
          refine wp_region_WQ (by kernel_rfl) (by kernel_rfl) ?_
          repeat (refine WQ.step (fun K hK => ?_);go_simp;first | (refine hK.out _ ?_;clear hK K) | (apply Exists.intro;refine ⟨fun _ => ?_,hK.out _ ?_⟩;(first | rfl);clear hK K))
          refine WQ.nil ?_
          intro Wq hw'
          obtain ⟨⟨wq,hbq⟩,hw2⟩:=hw'
          subst hw2
          replace HB:=Lib.hid (bch' HB.out hbq)
          clear e0 e1 e2 e3 r0 r1 r2 z1 z2
          go_wp2_with fail
          go_ret
          exact ⟨by first | (rw [HE.out];done) | (rw [HE.out];rfl),HB.out⟩
      · have hlt:¬ (k:Int) < (l.length:Int):=by omega
        obtain rfl:k = l.length:=by omega
        have HE:Hid (fitL es l = 0):=Lib.hid (by rw [← HS.out];exact fitL_end HLE.out)
        go_wp2_with fail
        go_ret
        exact ⟨by first | (rw [HE.out];done) | (rw [HE.out];rfl),HB.out⟩
  · have hll:((l.length:Int) != (es.length:Int)) = true:=by rw [bne_iff_ne];omega
    rw [show fitE es l = 14 from if_neg hl]
    go_enter Tryz.func70,Tryz.ntmps70
    go_wp2_with fail
    go_ret
    exact ⟨rfl,HB.out⟩
end Go.Proofs.YtknlohmkachbmaaGreatDoor
set_option maxRecDepth 100000
set_option maxHeartbeats 4000000
namespace Lum
open Go Go.RowKit Go.Shelf
open Go.Lib (decDigits itoa)
def encPm (x:Int × Int):List Value:=[.int .i64 x.1,.int .i64 x.2]
def PmsAt (W:World) (v:Value) (l:List (Int × Int)):Prop:=∃ p c,v = .slice p l.length c ∧ RowX encPm 2 W p l
theorem PmsAt.kept {W W':World} {v:Value} {l:List (Int × Int)} (h:PmsAt W v l) (hb:Below W.heap.size W W'):PmsAt W' v l:=by
  obtain ⟨p,c,rfl,h⟩:=h
  exact ⟨p,c,rfl,h.kept hb⟩
end Lum
namespace Go.Proofs.YtknlohmkachbmaaGreatDoor
open Go.RowKit Go.Shelf Lum
open Go.Lib (decDigits itoa)
attribute [local go_sem] bs_get bs_extract_end bs_extract_from bs_extract bs_append
theorem r29_occurs (l : List (Int × Int)) (v : Value) (d b : Int) (w : World) (hv : PmsAt w v l) (hn : l.length ≤ 1000000) :
    Calls Tryz.prog 109 #[v,.agg #[.int .i64 d,.int .i64 b]] w fun e w' => e = .returned (.bool (decide ((d,b) ∈ l))) ∧ Below w.heap.size w w':=by
  obtain ⟨p,c,rfl,hR⟩:=hv
  have hv2:=Lib.hid hR;have HFEW:=Lib.hid hn;clear hR hn
  have hal:=(Below.refl w.heap.size w).alloc (Nat.le_refl _) (.cells #[.int .i64 d,.int .i64 b] 23)
  have HB0:=Lib.hid hal;clear hal
  have HP1:=Lib.hid (Blk.new w 23 #[.int .i64 d,.int .i64 b])
  go_enter Tryz.func109,Tryz.ntmps109
  go_upto_region 1 with fail
  obtain ⟨W2,hW2⟩:∃ X,X = w.alloc (.cells #[.int .i64 d,.int .i64 b] 23):=⟨_,rfl⟩
  rw [← hW2] at HB0 HP1 ⊢
  clear hW2
  have HB:=Lib.hid (Below.refl W2.heap.size W2)
  go_wp2_with fail
  go_loopw [5] (fun s wr => ∃ k:Nat,s = .int .i64 (k:Int) ∧ k ≤ l.length ∧ Hid (∀ j (hj:j < l.length),j < k → l[j]'hj ≠ (d,b)) ∧ Hid (Below W2.heap.size W2 wr)) (fun s _ => l.length - (intOf s).toNat)
  case atStart => exact ⟨0,rfl,by omega,Lib.hid (fun j hj h => absurd h (Nat.not_lt_zero _)),HB⟩
  case round =>
    obtain ⟨k,rfl,hk9,HF,HB2⟩:=hrel
    clear HB
    have HB:=HB2;clear HB2
    by_cases hkl:k < l.length
    · have hlt:(k:Int) < (l.length:Int):=by omega
      have hk0:(0:Int) ≤ (k:Int):=by omega
      have hlo:k * 2 < 9223372036854775807:=by have:=HFEW.out;omega
      have hun:IntKind.i64.wrap ((k:Int) + 1) = (k:Int) + 1:=IntWalk.i64_in _ (by have:=HFEW.out;omega)
      obtain ⟨bb,oo,rfl,hbb,hC⟩:=hv2.out (fun h => by subst h;exact absurd hkl (Nat.not_lt_zero _))
      obtain ⟨x,hx⟩:∃ x,x = l[k]'hkl:=⟨_,rfl⟩
      have hcell:=hC k hkl
      rw [← hx] at hcell
      have HCX:=Lib.hid hcell;have HBb:=Lib.hid hbb;have HX:=Lib.hid hx
      clear hcell hx hbb hC
      go_upto_region 4 with fail
      by_cases hq:x = (d,b)
      · have hb2:((x.1 == d) && (x.2 == b)) = true:=by rw [hq];simp
        have heqr:=fun W => eq_par W x.1 x.2 d b
        rw [hb2] at heqr
        have HE:Hid (decide ((d,b) ∈ l) = true):=Lib.hid (decide_eq_true (by rw [← hq,HX.out];exact List.getElem_mem hkl))
        clear hq hb2
        have f0:=fun p:BelowOf _ => ((HP1.out.keep HB.out).keep p.h).c2.1
        have f1:=fun p:BelowOf _ => ((HP1.out.keep HB.out).keep p.h).c2.2.1
        have r0:=fun p:BelowOf _ => ((bch' HB0.out (bch' HB.out p.h)).cell (p:=⟨bb,oo + k * 2,none⟩) HBb.out).trans (HCX.out 0 _ rfl)
        have r1:=fun p:BelowOf _ => ((bch' HB0.out (bch' HB.out p.h)).cell (p:=⟨bb,oo + k * 2 + 1,none⟩) HBb.out).trans (HCX.out 1 _ rfl)
        have zz:=fun p:BelowOf _ => Nat.lt_of_lt_of_le HBb.out (bch' HB0.out (bch' HB.out p.h)).size
        refine wp_region_WQ (by kernel_rfl) (by kernel_rfl) ?_
        repeat (refine WQ.step (fun K hK => ?_);go_simp;first | (refine hK.out _ ?_;clear hK K) | (apply Exists.intro;refine ⟨fun _ => ?_,hK.out _ ?_⟩;(first | rfl);clear hK K))
        refine WQ.nil ?_
        intro _ hw'
        obtain ⟨⟨wq,hbq⟩,hw2⟩:=hw'
        subst hw2
        replace HB:=Lib.hid (bch' HB.out hbq)
        clear f0 f1 r0 r1 zz
        go_wp2_with fail
        go_ret
        exact ⟨by first | (rw [HE.out];done) | (rw [HE.out];rfl),bch' HB0.out HB.out⟩
      · have hb2:((x.1 == d) && (x.2 == b)) = false:=by rw [Bool.eq_false_iff];intro h;rw [Bool.and_eq_true,beq_iff_eq,beq_iff_eq] at h;exact hq (Prod.ext h.1 h.2)
        have heqr:=fun W => eq_par W x.1 x.2 d b
        rw [hb2] at heqr
        have HF2:Hid (∀ j (hj:j < l.length),j < k + 1 → l[j]'hj ≠ (d,b)):=Lib.hid (fun j hj h => by by_cases e:j = k;(subst e;rw [← HX.out];exact hq);exact HF.out j hj (by omega))
        clear hq hb2
        have f0:=fun p:BelowOf _ => ((HP1.out.keep HB.out).keep p.h).c2.1
        have f1:=fun p:BelowOf _ => ((HP1.out.keep HB.out).keep p.h).c2.2.1
        have r0:=fun p:BelowOf _ => ((bch' HB0.out (bch' HB.out p.h)).cell (p:=⟨bb,oo + k * 2,none⟩) HBb.out).trans (HCX.out 0 _ rfl)
        have r1:=fun p:BelowOf _ => ((bch' HB0.out (bch' HB.out p.h)).cell (p:=⟨bb,oo + k * 2 + 1,none⟩) HBb.out).trans (HCX.out 1 _ rfl)
        have zz:=fun p:BelowOf _ => Nat.lt_of_lt_of_le HBb.out (bch' HB0.out (bch' HB.out p.h)).size
        refine wp_region_WQ (by kernel_rfl) (by kernel_rfl) ?_
        repeat (refine WQ.step (fun K hK => ?_);go_simp;first | (refine hK.out _ ?_;clear hK K) | (apply Exists.intro;refine ⟨fun _ => ?_,hK.out _ ?_⟩;(first | rfl);clear hK K))
        refine WQ.nil ?_
        intro _ hw'
        obtain ⟨⟨wq,hbq⟩,hw2⟩:=hw'
        subst hw2
        replace HB:=Lib.hid (bch' HB.out hbq)
        clear f0 f1 r0 r1 zz
        go_wp2_with fail
        go_roundw
        case rel => exact ⟨k + 1,by first | rfl | simp,by omega,HF2,HB⟩
        case measure => first | (simp [intOf];done) | (simp [intOf];omega)
    · have hlt:¬ (k:Int) < (l.length:Int):=by omega
      have HE:Hid (decide ((d,b) ∈ l) = false):=Lib.hid (decide_eq_false fun h => by obtain ⟨j,hj,e⟩:=List.getElem_of_mem h;exact HF.out j hj (by omega) e)
      go_wp2_with fail
      go_ret
      exact ⟨by first | (rw [HE.out];done) | (rw [HE.out];rfl),bch' HB0.out HB.out⟩
end Go.Proofs.YtknlohmkachbmaaGreatDoor
