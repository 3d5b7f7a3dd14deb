/-
  
-/
import Derived.Test.YtmjkenlifgmeeaaGreatDoorQzJb
import Derived.Test.YtmjkenlifgmeeaaGreatDoorQzJc
import Derived.Test.YtmjkenlifgmeeaaGreatDoorQzHl
import Derived.Test.YtmjkenlifgmeeaaGreatDoorQzJn
set_option linter.unusedVariables false
set_option linter.unusedSimpArgs false
set_option maxRecDepth 100000
set_option maxHeartbeats 8000000
namespace Lum
open Go Go.RowKit Go.Shelf
open Go.Lib (decDigits itoa)
def befI (b:Bool):Int:=if b = true then -1 else 1
theorem befI_lt {b:Bool}:befI b < 0 ↔ b = true:=by cases b <;> simp [befI]
end Lum
namespace Go.Proofs.YtmjkenlifgmeeaaGreatDoor
open Go.RowKit Go.Shelf Lum
open Go.Lib (decDigits itoa)
attribute [local go_sem] bs_get bs_extract_end bs_extract_from bs_extract bs_append
theorem ent2_index (M : FuncId) (fv : Value) (fv2 : Value) (l : List Ent) (pr : Ent → Bool) (pp : Option Addr) (cc base : Nat) (w : World) (hR : RowX encEn 4 w pp l) (hbase : base ≤ w.heap.size) (hn : l.length ≤ 1000000) (hF : ∀ args w, (callFunc M args).run Tryz.prog w = .ok (.enter M args) w)
    (hcm:∀ x ∈ l,∀ W,Below base w W → Calls Tryz.prog M #[.agg #[.int .i64 x.ch,.int .i64 x.at_,.int .i64 x.pa,.int .i64 x.lv],fv,fv2] W fun e w' => e = .returned (.bool (pr x)) ∧ Below W.heap.size W w') :
    Calls Tryz.prog 25 #[.slice pp l.length cc,.func (.func M) #[] #[fv,fv2]] w fun e w' => e = .returned (.int .i64 (ixOf pr l)) ∧ Below w.heap.size w w':=by
  have hv2:=Lib.hid hR;clear hR
  have hcc:=Lib.hid hcm;clear hcm
  have HB:=Lib.hid (Below.refl w.heap.size w)
  go_enter Tryz.func25,Tryz.ntmps25
  go_wp2_with fail
  go_loopw [8] (fun s8 wr => ∃ i r:Nat,s8 = .int .i64 (i:Int) ∧ Hid (i + r = l.length) ∧ Hid (Below w.heap.size w wr) ∧ Hid (∀ j (hj:j < l.length),j < i → pr (l[j]'hj) = false)) (fun s8 _ => l.length - (intOf s8).toNat)
  case atStart => exact ⟨0,l.length,rfl,Lib.hid (by omega),HB,Lib.hid (fun j hj h => absurd h (Nat.not_lt_zero _))⟩
  case round =>
    clear HB
    obtain ⟨i,r,rfl,hkr,HB,HN⟩:=hrel
    cases r with
    | zero =>
      have hlt:¬ (i:Int) < (l.length:Int):=by have:=hkr.out;omega
      have HR:Hid (ixOf pr l = -1):=Lib.hid (ixOf_no fun j hj => HN.out j hj (by have:=hkr.out;omega))
      go_wp2_with fail
      go_ret
      exact ⟨by rw [HR.out];rfl,HB.out⟩
    | succ r =>
      have hkl:i < l.length:=by have:=hkr.out;omega
      have hlt:(i:Int) < (l.length:Int):=by omega
      have hi0:(0:Int) ≤ (i:Int):=by omega
      have hun:IntKind.i64.wrap ((i:Int) + 1) = (i:Int) + 1:=IntWalk.i64_in _ (by omega)
      obtain ⟨b,o,rfl,hb,hC⟩:=hv2.out (fun h => by subst h;exact absurd hkl (Nat.not_lt_zero _))
      obtain ⟨x,hx⟩:∃ x,x = l[i]'hkl:=⟨_,rfl⟩
      have hcell:=hC i hkl
      rw [← hx] at hcell
      have x0:wr.cell? ⟨b,o + i * 4,none⟩ = some (.int .i64 x.ch):=(HB.out.cell (p:=⟨b,o + i * 4 + 0,none⟩) hb).trans (hcell 0 _ rfl)
      have x1:wr.cell? ⟨b,o + i * 4 + 1,none⟩ = some (.int .i64 x.at_):=(HB.out.cell (p:=⟨b,o + i * 4 + 1,none⟩) hb).trans (hcell 1 _ rfl)
      have x2:wr.cell? ⟨b,o + i * 4 + 2,none⟩ = some (.int .i64 x.pa):=(HB.out.cell (p:=⟨b,o + i * 4 + 2,none⟩) hb).trans (hcell 2 _ rfl)
      have x3:wr.cell? ⟨b,o + i * 4 + 3,none⟩ = some (.int .i64 x.lv):=(HB.out.cell (p:=⟨b,o + i * 4 + 3,none⟩) hb).trans (hcell 3 _ rfl)
      have hcm:=hcc.out x (by rw [hx];exact List.getElem_mem hkl)
      have HBB:=Lib.hid (HB.out.mono hbase)
      have hbr:b < wr.heap.size:=by have:=HB.out.size;omega
      have hlo:i * 4 < 9223372036854775807:=by omega
      have HXE:=Lib.hid hx
      have HCM0:=Lib.hid hcm
      clear hC hcell hb hx hcm
      cases hpx:pr x
      · have HN2:Hid (∀ j (hj:j < l.length),j < i + 1 → pr (l[j]'hj) = false):=Lib.hid (fun j hj h => by by_cases e:j = i;(subst e;rw [← HXE.out];exact hpx);exact HN.out j hj (by omega))
        have hcm:=HCM0.out
        rw [hpx] at hcm
        clear hpx
        have HCM:=Lib.hid hcm;clear hcm
        go_wp2_with (first | (with_reducible refine ((HCM.out _ HBB.out).mono ?_);rintro e w' ⟨rfl,hb⟩;replace HB:=Lib.hid (bch' HB.out hb);clear hb))
        go_roundw
        case rel => exact ⟨i + 1,r,by first | rfl | simp,Lib.hid (by have:=hkr.out;omega),HB,HN2⟩
        case measure => first | (simp [intOf];done) | (simp [intOf];omega)
      · have HR:Hid (ixOf pr l = (i:Int)):=Lib.hid (ixOf_at hkl (by rw [← HXE.out];exact hpx) (fun j hj => HN.out j (by omega) hj))
        have hcm:=HCM0.out
        rw [hpx] at hcm
        clear hpx
        have HCM:=Lib.hid hcm;clear hcm
        go_wp2_with (first | (with_reducible refine ((HCM.out _ HBB.out).mono ?_);rintro e w' ⟨rfl,hb⟩;replace HB:=Lib.hid (bch' HB.out hb);clear hb))
        go_ret
        exact ⟨by rw [HR.out];rfl,HB.out⟩
theorem ent2_delete (M : FuncId) (fv : Value) (fv2 : Value) (l : List Ent) (pr : Ent → Bool) (pp : Option Addr) (cc base : Nat) (w : World) (hO : OwnR encEn 4 base 38 w pp cc l) (hbase : base ≤ w.heap.size) (hn : l.length ≤ 1000000) (hF : ∀ args w, (callFunc M args).run Tryz.prog w = .ok (.enter M args) w)
    (hcm:∀ x ∈ l,∀ W,Below base w W → Calls Tryz.prog M #[.agg #[.int .i64 x.ch,.int .i64 x.at_,.int .i64 x.pa,.int .i64 x.lv],fv,fv2] W fun e w' => e = .returned (.bool (pr x)) ∧ Below W.heap.size W w') :
    Calls Tryz.prog 7 #[.slice pp l.length cc,.func (.func M) #[] #[fv,fv2]] w fun e w' => ∃ pp' cc',e = .returned (.slice pp' (l.filter fun x => !pr x).length cc') ∧ OwnR encEn 4 base 38 w' pp' cc' (l.filter fun x => !pr x) ∧ Below base w w':=by
  have hix:=ent2_index M fv fv2 l pr pp cc base w (hO.row encEn_len) hbase hn hF hcm
  have hcc:=Lib.hid hcm;clear hcm
  have HO:=Lib.hid hO;clear hO
  have HB:=Lib.hid (Below.refl w.heap.size w)
  rcases first_ix pr l with hall | ⟨i,hil,hpi,hbef⟩
  · rw [ixOf_no hall] at hix
    have HE:=Lib.hid (kep_none hall)
    clear hall
    have HIX:=Lib.hid hix;clear hix
    go_enter Tryz.func7,Tryz.ntmps7
    go_wp2_with (first | (with_reducible refine ((HIX.out).mono ?_);rintro e w' ⟨rfl,hb⟩;replace HB:=Lib.hid (bch' HB.out hb);replace HO:=Lib.hid (HO.out.keep hb);clear hb))
    go_ret
    exact ⟨pp,cc,by rw [HE.out];rfl,by rw [HE.out];exact HO.out,HB.out.mono hbase⟩
  · rw [ixOf_at hil hpi hbef] at hix
    have hne:(((i:Nat):Int) == -1) = false:=by rw [beq_eq_false_iff_ne];omega
    have HPI:=Lib.hid hpi
    have HKF:=Lib.hid (kep_first hil hpi hbef)
    clear hpi hbef
    obtain ⟨g,cur0,rfl,hgb,-⟩:=HO.out.to_blk (fun h => by subst h;exact absurd hil (Nat.not_lt_zero _))
    have HGB:=Lib.hid hgb;clear hgb
    have HIX:=Lib.hid hix;clear hix
    have hun0:IntKind.i64.wrap ((i:Int) + 1) = (i:Int) + 1:=IntWalk.i64_in _ (by omega)
    go_enter Tryz.func7,Tryz.ntmps7
    go_wp2_with (first | (with_reducible refine ((HIX.out).mono ?_);rintro e w' ⟨rfl,hb⟩;replace HB:=Lib.hid (bch' HB.out hb);replace HO:=Lib.hid (HO.out.keep hb);clear hb))
    go_loopw [5,6] (fun s5 s6 wr => ∃ j r:Nat,s5 = .int .i64 ((kepL pr l j).length:Int) ∧ s6 = .int .i64 (j:Int) ∧ Hid (j + r = l.length) ∧ Hid (i < j) ∧ Hid (Below base w wr) ∧ Hid (OwnR encEn 4 base 38 wr (some ⟨g,0,none⟩) cc ((kepL pr l j) ++ l.drop (kepL pr l j).length))) (fun _ s6 _ => l.length - (intOf s6).toNat)
    case atStart => exact ⟨i + 1,l.length - (i + 1),by rw [HKF.out,List.length_take,Nat.min_eq_left (by omega)],by first | rfl | simp,Lib.hid (by omega),Lib.hid (by omega),Lib.hid (HB.out.mono hbase),Lib.hid (by rw [HKF.out,List.length_take,Nat.min_eq_left (by omega),List.take_append_drop];exact HO.out)⟩
    case round =>
      clear HB HO
      obtain ⟨j,r,rfl,rfl,hkr,hij,HB,HO⟩:=hrel
      cases r with
      | zero =>
        obtain rfl:j = l.length:=by have:=hkr.out;omega
        have hlt:¬ (l.length:Int) < (l.length:Int):=by omega
        have hm1:=kep_lt hil HPI.out _ hij.out (Nat.le_refl _)
        have HE:Hid ((kepL pr l l.length) = l.filter fun x => !pr x):=Lib.hid (kep_end pr l)
        obtain ⟨g2,cur,hp,hg2,hbk,hc1,hc2,hc3,hc4⟩:=HO.out.to_blk (fun e => by have h:=congrArg List.length e;rw [kept_len (by omega)] at h;have h2:l.length = 0:=h;omega)
        obtain rfl:g = g2:=by have:=Option.some.inj hp;injection this
        rw [kept_len (by omega)] at hc1
        have hKR:(l.drop (kepL pr l l.length).length).length = l.length - (kepL pr l l.length).length:=List.length_drop
        obtain ⟨w4,cs,hclr,hcl,hbk2,hbl2⟩:=clearK (P:=Tryz.prog) wr 25 38 (.agg #[.int .i64 0,.int .i64 0,.int .i64 0,.int .i64 0]) 4 g ((kepL pr l l.length).length * 4) (l.length - (kepL pr l l.length).length) (cc - (kepL pr l l.length).length) cur Tryz.underlying25 (fun _ => by kernel_rfl) rfl (by decide) hbk (by omega) (by rw [hc3,← Nat.add_mul];exact Nat.mul_le_mul_right _ (by omega))
        have HFI:Hid (OwnR encEn 4 base 38 w4 (some ⟨g,0,none⟩) cc (kepL pr l l.length)):=Lib.hid (OwnR.cut (R:=l.drop (kepL pr l l.length).length) encEn_len hg2 (by rw [kept_len (by omega)];exact hc1) hc2 hc3 (by have h:=hc4;rw [kept_len (by omega)] at h ⊢;exact h) (by rw [hKR];exact hcl) hbk2)
        have HCL:=Lib.hid hclr;have HB4:Hid (Below base w w4):=Lib.hid (HB.out.trans (hbl2 base hg2))
        have hcap:¬ cc = (kepL pr l l.length).length:=by omega
        have hcc1:((kepL pr l l.length).length:Int) ≤ (cc:Int):=by omega
        have hm0:(0:Int) ≤ ((kepL pr l l.length).length:Int):=by omega
        have hml:((kepL pr l l.length).length:Int) ≤ (l.length:Int):=by omega
        have hcb:(cc:Int) ≤ 9223372036854775807:=by unfold maxLen at hc2;omega
        have hlc:(l.length:Int) ≤ (cc:Int):=by omega
        clear hclr hcl hbk2 hbl2 hbk hc1 hc2 hc3 hc4 hKR hm1 hp hg2
        generalize hK:(kepL pr l l.length) = K at *
        clear hK
        go_wp2_with (first | (with_reducible refine wpList_clear_run _ rfl (.tmp 38) 25 rfl _ rfl (HCL.out _) ?_))
        go_ret
        rw [← HE.out]
        exact ⟨_,_,rfl,HFI.out,HB4.out⟩
      | succ r =>
        have hjl:j < l.length:=by have:=hkr.out;omega
        have hlt:(j:Int) < (l.length:Int):=by omega
        have hj0:(0:Int) ≤ (j:Int):=by omega
        have hun:IntKind.i64.wrap ((j:Int) + 1) = (j:Int) + 1:=IntWalk.i64_in _ (by omega)
        have hm1:=kep_lt hil HPI.out _ hij.out (Nat.le_of_lt hjl)
        have hm2:(kepL pr l j).length < l.length:=by omega
        obtain ⟨x,hx⟩:∃ x,x = l[j]'hjl:=⟨_,rfl⟩
        have hxc:=HO.out.cellsAt encEn_len (i:=j) (x:=x) (by rw [kept_get (by omega),List.getElem?_eq_getElem hjl,hx])
        have x0:wr.cell? ⟨g,j * 4,none⟩ = some (.int .i64 x.ch):=hxc 0 _ rfl
        have x1:wr.cell? ⟨g,j * 4 + 1,none⟩ = some (.int .i64 x.at_):=hxc 1 _ rfl
        have x2:wr.cell? ⟨g,j * 4 + 2,none⟩ = some (.int .i64 x.pa):=hxc 2 _ rfl
        have x3:wr.cell? ⟨g,j * 4 + 3,none⟩ = some (.int .i64 x.lv):=hxc 3 _ rfl
        have hgl:g < wr.heap.size:=by have:=(HO.out.lt _ rfl).2;exact this
        have hcm:=hcc.out x (by rw [hx];exact List.getElem_mem hjl)
        have hlo:j * 4 < 9223372036854775807:=by omega
        have HXE:=Lib.hid hx
        have HCM0:=Lib.hid hcm
        clear hxc hx hcm
        have hal:=(Below.refl wr.heap.size wr).alloc (Nat.le_refl _) (.cells #[.int .i64 x.ch,.int .i64 x.at_,.int .i64 x.pa,.int .i64 x.lv] 38)
        have HBW:=Lib.hid ((HB.out.trans (hal.mono (Nat.le_trans hbase HB.out.size))))
        replace HO:=Lib.hid (HO.out.keep hal)
        have HV:=Lib.hid (Blk.new wr 38 #[.int .i64 x.ch,.int .i64 x.at_,.int .i64 x.pa,.int .i64 x.lv])
        clear hal
        go_upto_region 8 with fail
        clear HB x0 x1 x2 x3 hgl
        generalize wr.alloc (.cells #[.int .i64 x.ch,.int .i64 x.at_,.int .i64 x.pa,.int .i64 x.lv] 38) = wg at *
        have HB:=HBW;clear HBW
        generalize wr.heap.size = gv at *
        obtain ⟨v0,v1,v2,v3,vf0,vf1,vf2,vf3⟩:=HV.out.c4
        have HBB:=HB
        cases hpx:pr x
        · have hK:(kepL pr l (j + 1)) = (kepL pr l j) ++ [x]:=by rw [HXE.out];exact kep_no hjl (by rw [← HXE.out];exact hpx)
          have HK:=Lib.hid hK;clear hK
          have hcm:=HCM0.out
          rw [hpx] at hcm
          clear hpx
          have HCM:=Lib.hid hcm;clear hcm
          generalize hq:(kepL pr l j) = K at *
          clear hq
          go_upto_region 9 with (first | (with_reducible refine ((HCM.out _ HBB.out).mono ?_);rintro e w' ⟨rfl,hb⟩;replace HV:=Lib.hid (HV.out.keep hb);clear v0 v1 v2 v3 vf0 vf1 vf2 vf3;replace HO:=Lib.hid (HO.out.keep hb);replace HB:=Lib.hid (HB.out.trans (hb.mono (Nat.le_trans hbase HB.out.size)));clear hb;obtain ⟨v0,v1,v2,v3,vf0,vf1,vf2,vf3⟩:=HV.out.c4))
          obtain ⟨y,hy⟩:∃ y,l[K.length]? = some y:=⟨_,List.getElem?_eq_getElem hm2⟩
          have hyc:=HO.out.cellsAt encEn_len (i:=K.length) (x:=y) (by rw [kept_get (Nat.le_refl _)];exact hy)
          have y0:w'.cell? ⟨g,K.length * 4,none⟩ = some (.int .i64 y.ch):=hyc 0 _ rfl
          have y1:w'.cell? ⟨g,K.length * 4 + 1,none⟩ = some (.int .i64 y.at_):=hyc 1 _ rfl
          have y2:w'.cell? ⟨g,K.length * 4 + 2,none⟩ = some (.int .i64 y.pa):=hyc 2 _ rfl
          have y3:w'.cell? ⟨g,K.length * 4 + 3,none⟩ = some (.int .i64 y.lv):=hyc 3 _ rfl
          have hfr:=HO.out.frozenAt (fun e => by have h:=congrArg List.length e;rw [kept_len (by omega)] at h;have h2:l.length = 0:=h;omega)
          have z0:=hfr (K.length * 4)
          have z1:=hfr (K.length * 4 + 1)
          have z2:=hfr (K.length * 4 + 2)
          have z3:=hfr (K.length * 4 + 3)
          have hgl:g < w'.heap.size:=(HO.out.lt _ rfl).2
          have hm0:(0:Int) ≤ (K.length:Int):=by omega
          have hml:(K.length:Int) < (l.length:Int):=by omega
          have hmk:K.length * 4 < 9223372036854775807:=by omega
          clear hyc hfr hy
          have HO2:Hid (OwnR encEn 4 base 38 ((((w'.setCell ⟨g,K.length * 4,none⟩ (.int .i64 x.ch)).setCell ⟨g,K.length * 4 + 1,none⟩ (.int .i64 x.at_)).setCell ⟨g,K.length * 4 + 2,none⟩ (.int .i64 x.pa)).setCell ⟨g,K.length * 4 + 3,none⟩ (.int .i64 x.lv)) (some ⟨g,0,none⟩) cc ((K ++ [x]) ++ l.drop (K ++ [x]).length)):=Lib.hid (by have h:=HO.out.setk encEn_len (i:=K.length) (by rw [kept_len (by omega)];omega) x;rw [kept_set K l x hm2] at h;rw [List.length_append];exact h)
          have HB2:Hid (Below base w ((((w'.setCell ⟨g,K.length * 4,none⟩ (.int .i64 x.ch)).setCell ⟨g,K.length * 4 + 1,none⟩ (.int .i64 x.at_)).setCell ⟨g,K.length * 4 + 2,none⟩ (.int .i64 x.pa)).setCell ⟨g,K.length * 4 + 3,none⟩ (.int .i64 x.lv))):=Lib.hid (((((HB.out.setCell HGB.out _).setCell HGB.out _).setCell HGB.out _).setCell HGB.out _))
          go_upto_region 10 with fail
          clear HO HB y0 y1 y2 y3 z0 z1 z2 z3 hgl
          clear v0 v1 v2 v3 vf0 vf1 vf2 vf3
          clear HV
          generalize (((w'.setCell ⟨g,K.length * 4,none⟩ (.int .i64 x.ch)).setCell ⟨g,K.length * 4 + 1,none⟩ (.int .i64 x.at_)).setCell ⟨g,K.length * 4 + 2,none⟩ (.int .i64 x.pa)).setCell ⟨g,K.length * 4 + 3,none⟩ (.int .i64 x.lv) = w5 at *
          have hun2:IntKind.i64.wrap ((K.length:Int) + 1) = (K.length:Int) + 1:=IntWalk.i64_in _ (by omega)
          go_wp2_with fail
          go_roundw
          case rel => exact ⟨j + 1,r,by rw [HK.out,List.length_append];simp,by first | rfl | simp,Lib.hid (by have:=hkr.out;omega),Lib.hid (by have:=hij.out;omega),HB2,Lib.hid (by rw [HK.out];exact HO2.out)⟩
          case measure => first | (simp [intOf];done) | (simp [intOf];omega)
        · have hK:(kepL pr l (j + 1)) = (kepL pr l j):=kep_yes hjl (by rw [← HXE.out];exact hpx)
          have HK:=Lib.hid hK;clear hK
          have hcm:=HCM0.out
          rw [hpx] at hcm
          clear hpx hm1 hm2
          have HCM:=Lib.hid hcm;clear hcm
          generalize hq:(kepL pr l j) = K at *
          clear hq
          go_wp2_with (first | (with_reducible refine ((HCM.out _ HBB.out).mono ?_);rintro e w' ⟨rfl,hb⟩;replace HV:=Lib.hid (HV.out.keep hb);clear v0 v1 v2 v3 vf0 vf1 vf2 vf3;replace HO:=Lib.hid (HO.out.keep hb);replace HB:=Lib.hid (HB.out.trans (hb.mono (Nat.le_trans hbase HB.out.size)));clear hb;obtain ⟨v0,v1,v2,v3,vf0,vf1,vf2,vf3⟩:=HV.out.c4))
          go_roundw
          case rel => exact ⟨j + 1,r,by rw [HK.out],by first | rfl | simp,Lib.hid (by have:=hkr.out;omega),Lib.hid (by have:=hij.out;omega),HB,Lib.hid (by rw [HK.out];exact HO.out)⟩
          case measure => first | (simp [intOf];done) | (simp [intOf];omega)
theorem info_enU:(Tryz.prog.info? 38).map (fun i => (i.zero,i.size,i.bytes)) = some (some (.agg #[.int .i64 0,.int .i64 0,.int .i64 0,.int .i64 0]),4,32):=by kernel_rfl
theorem own_eclone (w : World) (l : List Ent) (p : Option Addr) (c : Nat) (hv1 : RowX encEn 4 w p l) (hn : l.length ≤ 1000000) :
    Calls Tryz.prog 8 #[.slice p l.length c] w fun e w' => ∃ pp cc,e = .returned (.slice pp l.length cc) ∧ OwnR encEn 4 w.heap.size 38 w' pp cc l ∧ Below w.heap.size w w':=by
  have hq:∀ (w:World) (a:Option Addr) (n c n2 c2:Nat),(binOp .eql 25 (.slice a n c) (.slice none n2 c2)).run Tryz.prog w = .ok (.bool a.isNone) w:=fun w a n c n2 c2 => Lib.run_eql_slice_nil w _ _ a n c n2 c2 Tryz.underlying25
  obtain ⟨i0,hi,hz0,hz1,hz2⟩:=info_parts info_enU
  have HN:=Lib.hid hn;clear hn
  cases p with
  | none =>
    have h0:l = []:=by
      by_cases h:l = []
      · exact h
      · obtain ⟨b,o,e,-⟩:=hv1 h;cases e
    clear hv1
    subst h0
    dsimp only [List.length_nil]
    go_enter Tryz.func8,Tryz.ntmps8
    go_wp2_with fail
    go_ret
    exact ⟨none,0,rfl,OwnR.nil _ _ _,Below.refl _ _⟩
  | some ad =>
    by_cases hl0:l = []
    · subst hl0
      clear hv1
      dsimp only [List.length_nil]
      go_enter Tryz.func8,Tryz.ntmps8
      have HA:Hid (∀ (j:Nat) (u:Value),(([]:List Ent).flatMap encEn)[j]? = some u → w.cell? (ad.add j) = some u):=Lib.hid (fun j u h => by simp at h)
      go_wp2_with fail
      go_ret
      exact ⟨_,_,rfl,OwnR.made w 38,(Below.refl w.heap.size w).alloc (Nat.le_refl _) _⟩
    obtain ⟨b,off,had,-,hC⟩:=hv1 hl0
    obtain rfl:=Option.some.inj had
    have HA:Hid (∀ (j:Nat) (u:Value),(l.flatMap encEn)[j]? = some u → w.cell? ⟨b,off + j,none⟩ = some u):=Lib.hid (flat_cell encEn_len l (fun j => w.cell? ⟨b,off + j,none⟩) (fun i hi j v hv => by have:=hC i hi j v hv;rwa [Nat.add_assoc] at this))
    clear hv1 hC
    go_enter Tryz.func8,Tryz.ntmps8
    go_wp2_with (first | (at_builtin;refine wpList_appL rfl _ _ 25 rfl w.heap.size 38 i0 (.agg #[.int .i64 0,.int .i64 0,.int .i64 0,.int .i64 0]) 32 Tryz.underlying25 hi hz0 hz1 hz2 rfl (by decide) (by decide) (some ⟨w.heap.size,0,none⟩) 0 0 [] rfl _ l b off c encEn_len (fun j u hu => Lib.cell?_alloc_some _ (HA.out j u hu)) (fun y _ => encEn_one y) rfl (OwnR.made w 38) rfl (by have:=HN.out;simp;omega) (by simp) ?_;intro p1 c1 w3 hO3 hb3;have HO3:=Lib.hid hO3;have HB3:=Lib.hid hb3;clear hO3 hb3))
    go_ret
    refine ⟨p1,c1,by simp,by simpa using HO3.out,?_⟩
    exact ((Below.refl w.heap.size w).alloc (Nat.le_refl _) _).trans HB3.out
theorem r15_beforeD (x y z u : Int) (w : World) :
    Calls Tryz.prog 16 #[.agg #[.int .i64 x,.int .i64 y],.agg #[.int .i64 z,.int .i64 u]] w fun e w' => e = .returned (.bool (ltP (x,y) (z,u))) ∧ BelD w w':=by
  have hal:=((Below.refl w.heap.size w).alloc (Nat.le_refl _) (.cells #[.int .i64 x,.int .i64 y] 34)).alloc (by simp) (.cells #[.int .i64 z,.int .i64 u] 34)
  have HB:=Lib.hid hal;clear hal
  have HX:=Lib.hid ((Blk.new w 34 #[.int .i64 x,.int .i64 y]).alloc (.cells #[.int .i64 z,.int .i64 u] 34))
  have hA:=Blk.new (w.alloc (.cells #[.int .i64 x,.int .i64 y] 34)) 34 #[.int .i64 z,.int .i64 u]
  rw [World.size_alloc] at hA
  have HZ:=Lib.hid hA;clear hA
  go_enter Tryz.func16,Tryz.ntmps16
  go_upto_region 1 with fail
  obtain ⟨W2,hW2⟩:∃ X,X = (w.alloc (.cells #[.int .i64 x,.int .i64 y] 34)).alloc (.cells #[.int .i64 z,.int .i64 u] 34):=⟨_,rfl⟩
  have HDR:Hid (w.drawn ≤ W2.drawn):=Lib.hid (by rw [hW2];exact Nat.le_refl _)
  rw [← hW2] at HB HX HZ ⊢
  clear hW2
  obtain ⟨p0,p1,pf0,pf1⟩:=HX.out.c2
  obtain ⟨q0,q1,qf0,qf1⟩:=HZ.out.c2
  by_cases h1:x < z
  · have HE:Hid (ltP (x,y) (z,u) = true):=Lib.hid (by rw [ltP_iff];omega)
    try clear h2
    go_wp2_with fail
    go_ret
    exact ⟨by first | (rw [HE.out];done) | (rw [HE.out];rfl),⟨HB.out,HDR.out⟩⟩
  · by_cases h2:x = z
    · have heq:((x:Int) == z) = true:=by rw [beq_iff_eq];exact h2
      by_cases h3:y < u
      · have HE:Hid (ltP (x,y) (z,u) = true):=Lib.hid (by rw [ltP_iff];omega)
        try clear h2
        go_wp2_with fail
        go_ret
        exact ⟨by first | (rw [HE.out];done) | (rw [HE.out];rfl),⟨HB.out,HDR.out⟩⟩
      · have HE:Hid (ltP (x,y) (z,u) = false):=Lib.hid (by rw [ltP_false];omega)
        try clear h2
        go_wp2_with fail
        go_ret
        exact ⟨by first | (rw [HE.out];done) | (rw [HE.out];rfl),⟨HB.out,HDR.out⟩⟩
    · have heq:((x:Int) == z) = false:=by rw [beq_eq_false_iff_ne];exact h2
      have HE:Hid (ltP (x,y) (z,u) = false):=Lib.hid (by rw [ltP_false];omega)
      try clear h2
      go_wp2_with fail
      go_ret
      exact ⟨by first | (rw [HE.out];done) | (rw [HE.out];rfl),⟨HB.out,HDR.out⟩⟩
theorem cl_t2 (x y : Ent) (w : World) :
    Calls Tryz.prog 15 #[.agg #[.int .i64 (x.ch),.int .i64 (x.at_),.int .i64 (x.pa),.int .i64 (x.lv)],.agg #[.int .i64 (y.ch),.int .i64 (y.at_),.int .i64 (y.pa),.int .i64 (y.lv)]] w fun e w' => e = .returned (.int .i64 (befI (ltP x.ky y.ky))) ∧ BelD w w':=by
  have hal:=((Below.refl w.heap.size w).alloc (Nat.le_refl _) (.cells #[.int .i64 (x.ch),.int .i64 (x.at_),.int .i64 (x.pa),.int .i64 (x.lv)] 38)).alloc (by simp) (.cells #[.int .i64 (y.ch),.int .i64 (y.at_),.int .i64 (y.pa),.int .i64 (y.lv)] 38)
  have HB:=Lib.hid hal;clear hal
  have HX:=Lib.hid ((Blk.new w 38 #[.int .i64 (x.ch),.int .i64 (x.at_),.int .i64 (x.pa),.int .i64 (x.lv)]).alloc (.cells #[.int .i64 (y.ch),.int .i64 (y.at_),.int .i64 (y.pa),.int .i64 (y.lv)] 38))
  have hA:=Blk.new (w.alloc (.cells #[.int .i64 (x.ch),.int .i64 (x.at_),.int .i64 (x.pa),.int .i64 (x.lv)] 38)) 38 #[.int .i64 (y.ch),.int .i64 (y.at_),.int .i64 (y.pa),.int .i64 (y.lv)]
  rw [World.size_alloc] at hA
  have HZ:=Lib.hid hA;clear hA
  have hbf:=fun W => r15_beforeD x.ch x.at_ y.ch y.at_ W
  have HE:Hid (befI (ltP x.ky y.ky) = befI (ltP (x.ch,x.at_) (y.ch,y.at_))):=Lib.hid rfl
  rw [HE.out]
  clear HE
  generalize ltP (x.ch,x.at_) (y.ch,y.at_) = r at *
  have HBF:=Lib.hid hbf;clear hbf
  go_enter Tryz.func15,Tryz.ntmps15
  go_upto_region 1 with fail
  obtain ⟨W2,hW2⟩:∃ X,X = (w.alloc (.cells #[.int .i64 (x.ch),.int .i64 (x.at_),.int .i64 (x.pa),.int .i64 (x.lv)] 38)).alloc (.cells #[.int .i64 (y.ch),.int .i64 (y.at_),.int .i64 (y.pa),.int .i64 (y.lv)] 38):=⟨_,rfl⟩
  have HDR:Hid (w.drawn ≤ W2.drawn):=Lib.hid (by rw [hW2];exact Nat.le_refl _)
  rw [← hW2] at HB HX HZ ⊢
  clear hW2
  obtain ⟨p0,p1,p2,p3,pf0,pf1,pf2,pf3⟩:=HX.out.c4
  obtain ⟨q0,q1,q2,q3,qf0,qf1,qf2,qf3⟩:=HZ.out.c4
  cases r with
  | true =>
    go_wp2_with (first | ((with_reducible refine ((HBF.out _).mono ?_));rintro e w' ⟨rfl,hb⟩))
    go_ret
    exact ⟨by rfl,⟨bch' HB.out hb.1,Nat.le_trans HDR.out hb.2⟩⟩
  | false =>
    go_wp2_with (first | ((with_reducible refine ((HBF.out _).mono ?_));rintro e w' ⟨rfl,hb⟩))
    go_ret
    exact ⟨by rfl,⟨bch' HB.out hb.1,Nat.le_trans HDR.out hb.2⟩⟩
theorem cl_t1 (x : Ent) (ps : List (Int × Int)) (cl : Bool) (p : Option Addr) (c B1 B2 : Nat) (w : World) (hv : PmsAt w (.slice p ps.length c) ps) (hn : ps.length ≤ 1000000) (hB1 : B1 < w.heap.size) (hB2 : B2 < w.heap.size) (hc1 : w.cell? ⟨B1, 0, none⟩ = some (.slice p ps.length c)) (hc2 : w.cell? ⟨B2, 2, none⟩ = some (.bool cl)) :
    Calls Tryz.prog 9 #[.agg #[.int .i64 (x.ch),.int .i64 (x.at_),.int .i64 (x.pa),.int .i64 (x.lv)],.pointer (some ⟨B1,0,none⟩),.pointer (some ⟨B2,0,none⟩)] w fun e w' => e = .returned (.bool (decide (x.ky ∈ ps) || (cl && decide (ps.length = 0)))) ∧ Below w.heap.size w w':=by
  by_cases h0:ps.length = 0
  · have hps:ps = []:=List.length_eq_zero_iff.1 h0
    subst hps
    clear h0 hn
    have hpc:=fun W (h:PmsAt W (.slice p 0 c) ([]:List (Int × Int))) => pm_contains ([]:List (Int × Int)) (.slice p 0 c) x.ch x.at_ W h (by first | exact hn | decide)
    have HB1:=Lib.hid hB1;have HB2:=Lib.hid hB2;have HC10:=Lib.hid hc1;have HC20:=Lib.hid hc2;clear hB1 hB2 hc1 hc2
    have HK:=Lib.hid (Blk.new w 38 #[.int .i64 (x.ch),.int .i64 (x.at_),.int .i64 (x.pa),.int .i64 (x.lv)])
    have HB:=Lib.hid ((Below.refl w.heap.size w).alloc (Nat.le_refl _) (.cells #[.int .i64 (x.ch),.int .i64 (x.at_),.int .i64 (x.pa),.int .i64 (x.lv)] 38))
    obtain ⟨k0,k1,k2,k3,kf0,kf1,kf2,kf3⟩:=HK.out.c4
    have HV:=Lib.hid (show PmsAt _ (.slice p 0 c) ([]:List (Int × Int)) from PmsAt.kept hv HB.out)
    clear hv
    have HC1:=Lib.hid (show _ = some (Value.slice p 0 c) from (HB.out.cell (p:=⟨B1,0,none⟩) HB1.out).trans HC10.out)
    have HC2:=Lib.hid ((HB.out.cell (p:=⟨B2,2,none⟩) HB2.out).trans HC20.out)
    have hc1w:=HC1.out
    have hc2w:=HC2.out
    have HE:Hid (decide (x.ky ∈ ([]:List (Int × Int))) = decide ((x.ch,x.at_) ∈ ([]:List (Int × Int)))):=Lib.hid rfl
    rw [HE.out]
    generalize decide ((x.ch,x.at_) ∈ ([]:List (Int × Int))) = r at *
    have HPC:=Lib.hid hpc;clear hpc
    rw [show decide (([]:List (Int × Int)).length = 0) = true from rfl]
    go_enter Tryz.func9,Tryz.ntmps9
    cases r <;> cases cl
    all_goals (go_wp2_with (first | ((with_reducible refine ((HPC.out _ HV.out).mono ?_));rintro e w' ⟨rfl,hb⟩;have hc1:=(hb.cell (p:=⟨B1,0,none⟩) (Nat.lt_of_lt_of_le HB1.out HB.out.size)).trans HC1.out;have hc2:=(hb.cell (p:=⟨B2,2,none⟩) (Nat.lt_of_lt_of_le HB2.out HB.out.size)).trans HC2.out;replace HB:=Lib.hid (bch' HB.out hb);clear hb)))
    all_goals (go_ret;exact ⟨by first | rfl | simp,HB.out⟩)
  · have hpc:=fun W (h:PmsAt W (.slice p ps.length c) ps) => pm_contains ps (.slice p ps.length c) x.ch x.at_ W h (by first | exact hn | decide)
    have HB1:=Lib.hid hB1;have HB2:=Lib.hid hB2;have HC10:=Lib.hid hc1;have HC20:=Lib.hid hc2;clear hB1 hB2 hc1 hc2
    have HK:=Lib.hid (Blk.new w 38 #[.int .i64 (x.ch),.int .i64 (x.at_),.int .i64 (x.pa),.int .i64 (x.lv)])
    have HB:=Lib.hid ((Below.refl w.heap.size w).alloc (Nat.le_refl _) (.cells #[.int .i64 (x.ch),.int .i64 (x.at_),.int .i64 (x.pa),.int .i64 (x.lv)] 38))
    obtain ⟨k0,k1,k2,k3,kf0,kf1,kf2,kf3⟩:=HK.out.c4
    have HV:=Lib.hid (show PmsAt _ (.slice p ps.length c) ps from PmsAt.kept hv HB.out)
    clear hv
    have HC1:=Lib.hid (show _ = some (Value.slice p ps.length c) from (HB.out.cell (p:=⟨B1,0,none⟩) HB1.out).trans HC10.out)
    have HC2:=Lib.hid ((HB.out.cell (p:=⟨B2,2,none⟩) HB2.out).trans HC20.out)
    have hc1w:=HC1.out
    have hc2w:=HC2.out
    have HE:Hid (decide (x.ky ∈ ps) = decide ((x.ch,x.at_) ∈ ps)):=Lib.hid rfl
    rw [HE.out]
    generalize decide ((x.ch,x.at_) ∈ ps) = r at *
    have HPC:=Lib.hid hpc;clear hpc
    have heq:((ps.length:Int) == 0) = false:=by rw [beq_eq_false_iff_ne];omega
    rw [decide_eq_false h0]
    go_enter Tryz.func9,Tryz.ntmps9
    cases r <;> cases cl
    all_goals (go_wp2_with (first | ((with_reducible refine ((HPC.out _ HV.out).mono ?_));rintro e w' ⟨rfl,hb⟩;have hc1:=(hb.cell (p:=⟨B1,0,none⟩) (Nat.lt_of_lt_of_le HB1.out HB.out.size)).trans HC1.out;have hc2:=(hb.cell (p:=⟨B2,2,none⟩) (Nat.lt_of_lt_of_le HB2.out HB.out.size)).trans HC2.out;replace HB:=Lib.hid (bch' HB.out hb);clear hb)))
    all_goals (go_ret;exact ⟨by first | rfl | simp,HB.out⟩)
end Go.Proofs.YtmjkenlifgmeeaaGreatDoor
namespace Lum
open Go Go.RowKit Go.Shelf
open Go.Lib (decDigits itoa)
theorem keepT_grown {β:Type} {enc:β → List Value} {k base:Nat} {e:TypeId} {W w':World} {g c:Nat} {l:List β} (hown:OwnR enc k base e W (some ⟨g,0,none⟩) c l) (hgrow:W.grownBy w' (some g)):KeepT e base W w':=by
  intro β2 enc2 k2 e2 q d m hne hq
  refine ⟨hq.1,hq.2.imp id fun ⟨b,cap2,cur,q1,q2,q3,q4⟩ => ⟨b,cap2,cur,q1,q2,?_,q4⟩⟩
  rw [hgrow.block b (Array.getElem?_eq_some_iff.1 q3).1 (fun e3 => ?_)]
  · exact q3
  · injection q1 with q1
    injection e3 with e3
    first | exact ownR_blk_ne hown hq hne _ _ rfl q1 e3 | exact ownR_blk_ne hown hq hne _ _ rfl q1 e3.symm
section
variable {β:Type} [Inhabited β] {enc:β → List Value} {k:Nat}
open Go.Proofs in
theorem sort_genT {P : Program} {ρ : Ren} (L : SlLaysF0.n6 P ρ) (hk : ∀ x, (enc x).length = k) (h1 : ∀ x, ∀ v ∈ enc x, v.oneCell' = true) (hk0 : 0 < k) (aE : ∀ w, (isAgg (ρ.t 24)).run P w = .ok true w) (zE : ∀ w, (Go.sizeOf (ρ.t 24)).run P w = .ok k w)
    (key:β → Int × Int) (cf:β → β → Int) (hcf:∀ x y,cf x y < 0 ↔ ltP (key x) (key y) = true) (g:Nat) (cb:Array Value) (l:List β) (w:World) (p:Option Addr) (c base:Nat) (e:TypeId) (eg:∀ args w,(callFunc g args).run P w = .ok (.enter g args) w)
    (hcmp:∀ W,Below base w W → ∀ x y:β,Calls P g (#[.agg (enc x).toArray,.agg (enc y).toArray] ++ cb) W fun e w' => e = .returned (.int .i64 (cf x y)) ∧ BelD W w') (hO:OwnR enc k base e w p c l) (hn:l.length ≤ 1000000) (hbase:base ≤ w.heap.size) :
    Calls P (ρ.f 6) #[.slice p l.length c,.func (.func g) #[] cb] w fun e2 w' => e2 = .returned (.tuple #[]) ∧ ∃ s,List.Perm s l ∧ (∀ i j (hj:j < s.length) (h:i < j),ltP (key (s[j]'hj)) (key (s[i]'(by omega))) = false) ∧ OwnR enc k base e w' p c s ∧ Below base w w' ∧ KeepT e base w w':=by
  have hcl:∀ x y,Go.Proofs.ltOf cf x y = ltP (key x) (key y):=fun x y => by
    unfold Go.Proofs.ltOf
    cases h:ltP (key x) (key y) with
    | true => exact decide_eq_true ((hcf x y).2 h)
    | false => exact decide_eq_false (fun g => by rw [(hcf x y).1 g] at h;cases h)
  have swo : Go.Sort.SWO (Go.Proofs.ltOf cf) := {
    irrefl:=fun x => by rw [hcl];exact ltP_irr _
    trans:=fun x y z h g => by rw [hcl] at *;exact ltP_trans h g
    ntrans:=fun x y z h g => by rw [hcl] at *;rw [ltP_false] at *;omega }
  by_cases h0:l = []
  · subst h0
    refine (AnyF.slices_SortFunc_none L p c (.func (.func g) #[] cb) w).mono fun e2 w' ⟨he,hw⟩ => ⟨he,[],List.Perm.refl _,fun i j hj => absurd hj (Nat.not_lt_zero _),?_,?_,?_⟩
    · subst hw;exact hO
    · subst hw;exact Below.refl _ _
    · subst hw;intro β2 enc2 k2 e2 q d m hne hq;exact hq
  · obtain ⟨b,cur,rfl,hg,-⟩:=hO.to_blk h0
    have hlt:=(hO.lt _ rfl).2
    have hs:l.toArray.size = l.length:=by simp
    have h:=AnyQ.slices_SortFunc L k aE zE enc hk h1 cf swo g cb b 0 c l.toArray w eg (fun m os dk _ x y => (hcmp _ (below_sortG hg hbase) x y).mono fun e w' ⟨ha,hb⟩ => ⟨ha,hb.grow⟩) (holdsK_own hk hk0 hO h0) hlt (by rw [hs];omega)
    rw [hs] at h
    refine h.mono fun e2 w' ⟨he,d',n,os,hp,hsd,hw⟩ => ⟨he,d'.toList,?_,fun i j hj hij => ?_,?_,?_,?_⟩
    · have h1:=hp.2.2
      rw [← hs,Array.extract_size] at h1
      have h2:d'.size = l.toArray.size:=hp.1
      rw [← h2,Array.extract_size] at h1
      simpa using h1
    · have h2:d'.size = l.toArray.size:=hp.1
      have hj2:j < d'.size:=by simpa using hj
      have:=hsd i j (Nat.zero_le _) hij (by rw [← hs,← h2];exact hj2)
      rw [hcl,getElem!_pos d' j hj2,getElem!_pos d' i (by omega)] at this
      simpa using this
    · have h3:=ownR_sortG (n:=n) (os:=os) (s:=d'.toList) hk hk0 hO h0 (by have:d'.size = l.toArray.size:=hp.1;simpa using this)
      rw [Array.toArray_toList] at h3
      rw [hw];exact h3
    · rw [hw];exact below_sortG hg hbase
    · rw [hw];exact keepT_grown hO (grown_sortG _)
end
end Lum
namespace Go.Proofs.YtmjkenlifgmeeaaGreatDoor
open Go.RowKit Go.Shelf Lum
open Go.Lib (decDigits itoa)
attribute [local go_sem] bs_get bs_extract_end bs_extract_from bs_extract bs_append
theorem own_esortT (l : List Ent) (w : World) (p : Option Addr) (c base : Nat) (hO : OwnR encEn 4 base 38 w p c l) (hn : l.length ≤ 1000000) (hbase : base ≤ w.heap.size) :
    Calls Tryz.prog 14 #[.slice p l.length c,.func (.func 15) #[] #[]] w fun e w' => e = .returned (.tuple #[]) ∧ ∃ s,List.Perm s l ∧ (∀ i j (hj:j < s.length) (h:i < j),ltP (s[j]'hj).ky (s[i]'(by omega)).ky = false) ∧ OwnR encEn 4 base 38 w' p c s ∧ Below base w w' ∧ KeepT 38 base w w' :=
  sort_genT Tryz.sortEn encEn_len encEn_one (by decide) Tryz.isAgg38 Tryz.sizeOf38 Ent.ky (fun x y => befI (ltP x.ky y.ky)) (fun x y => befI_lt) 15 #[] l w p c base 38 (enters_of Tryz.func15 (by kernel_rfl) rfl)
    (fun W hW x y => cl_t2 x y W) hO hn hbase
end Go.Proofs.YtmjkenlifgmeeaaGreatDoor
