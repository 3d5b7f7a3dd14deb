/-
  
-/
import Derived.Test.YtmjkenlifgmeeaaGreatDoorQzJa
import Derived.Test.YtmjkenlifgmeeaaGreatDoorQzHl
import Derived.WalkSpells
import Derived.Lib.SliceRun
import Derived.BigRegion
set_option linter.unusedVariables false
set_option linter.unusedSimpArgs false
set_option maxRecDepth 100000
set_option maxHeartbeats 8000000
namespace Go.Proofs.YtmjkenlifgmeeaaGreatDoor
open Go.RowKit Go.Shelf Lum
open Go.Lib (decDigits itoa)
attribute [local go_sem] bs_get bs_extract_end bs_extract_from bs_extract bs_append
theorem hnd2_index (M : FuncId) (fv : Value) (fv2 : Value) (l : List Hnd) (pr : Hnd → Bool) (pp : Option Addr) (cc base : Nat) (w : World) (hR : RowX encHd 7 w pp l) (hbase : base ≤ w.heap.size) (hn : l.length ≤ 1000000) (hF : ∀ args w, (callFunc M args).run Tryz.prog w = .ok (.enter M args) w)
    (hcm:∀ x ∈ l,∀ W,Below base w W → Calls Tryz.prog M #[.agg #[.int .i64 x.ch,.int .i64 x.at_,.string ⟨(x.fr).toArray⟩,.int .i64 x.pa,.int .i64 x.lv,.int .i64 x.st,.int .i64 x.ti],fv,fv2] W fun e w' => e = .returned (.bool (pr x)) ∧ Below W.heap.size W w') :
    Calls Tryz.prog 59 #[.slice pp l.length cc,.func (.func M) #[] #[fv,fv2]] w fun e w' => e = .returned (.int .i64 (ixOf pr l)) ∧ Below w.heap.size w w':=by
  have hv2:=Lib.hid hR;clear hR
  have hcc:=Lib.hid hcm;clear hcm
  have HB:=Lib.hid (Below.refl w.heap.size w)
  go_enter Tryz.func59,Tryz.ntmps59
  go_wp2_with fail
  go_loopw [8] (fun s8 wr => ∃ i r:Nat,s8 = .int .i64 (i:Int) ∧ Hid (i + r = l.length) ∧ Hid (Below w.heap.size w wr) ∧ Hid (∀ j (hj:j < l.length),j < i → pr (l[j]'hj) = false)) (fun s8 _ => l.length - (intOf s8).toNat)
  case atStart => exact ⟨0,l.length,rfl,Lib.hid (by omega),HB,Lib.hid (fun j hj h => absurd h (Nat.not_lt_zero _))⟩
  case round =>
    clear HB
    obtain ⟨i,r,rfl,hkr,HB,HN⟩:=hrel
    cases r with
    | zero =>
      have hlt:¬ (i:Int) < (l.length:Int):=by have:=hkr.out;omega
      have HR:Hid (ixOf pr l = -1):=Lib.hid (ixOf_no fun j hj => HN.out j hj (by have:=hkr.out;omega))
      go_wp2_with fail
      go_ret
      exact ⟨by rw [HR.out];rfl,HB.out⟩
    | succ r =>
      have hkl:i < l.length:=by have:=hkr.out;omega
      have hlt:(i:Int) < (l.length:Int):=by omega
      have hi0:(0:Int) ≤ (i:Int):=by omega
      have hun:IntKind.i64.wrap ((i:Int) + 1) = (i:Int) + 1:=IntWalk.i64_in _ (by omega)
      obtain ⟨b,o,rfl,hb,hC⟩:=hv2.out (fun h => by subst h;exact absurd hkl (Nat.not_lt_zero _))
      obtain ⟨x,hx⟩:∃ x,x = l[i]'hkl:=⟨_,rfl⟩
      have hcell:=hC i hkl
      rw [← hx] at hcell
      have x0:wr.cell? ⟨b,o + i * 7,none⟩ = some (.int .i64 x.ch):=(HB.out.cell (p:=⟨b,o + i * 7 + 0,none⟩) hb).trans (hcell 0 _ rfl)
      have x1:wr.cell? ⟨b,o + i * 7 + 1,none⟩ = some (.int .i64 x.at_):=(HB.out.cell (p:=⟨b,o + i * 7 + 1,none⟩) hb).trans (hcell 1 _ rfl)
      have x2:wr.cell? ⟨b,o + i * 7 + 2,none⟩ = some (.string ⟨(x.fr).toArray⟩):=(HB.out.cell (p:=⟨b,o + i * 7 + 2,none⟩) hb).trans (hcell 2 _ rfl)
      have x3:wr.cell? ⟨b,o + i * 7 + 3,none⟩ = some (.int .i64 x.pa):=(HB.out.cell (p:=⟨b,o + i * 7 + 3,none⟩) hb).trans (hcell 3 _ rfl)
      have x4:wr.cell? ⟨b,o + i * 7 + 4,none⟩ = some (.int .i64 x.lv):=(HB.out.cell (p:=⟨b,o + i * 7 + 4,none⟩) hb).trans (hcell 4 _ rfl)
      have x5:wr.cell? ⟨b,o + i * 7 + 5,none⟩ = some (.int .i64 x.st):=(HB.out.cell (p:=⟨b,o + i * 7 + 5,none⟩) hb).trans (hcell 5 _ rfl)
      have x6:wr.cell? ⟨b,o + i * 7 + 6,none⟩ = some (.int .i64 x.ti):=(HB.out.cell (p:=⟨b,o + i * 7 + 6,none⟩) hb).trans (hcell 6 _ rfl)
      have hcm:=hcc.out x (by rw [hx];exact List.getElem_mem hkl)
      have HBB:=Lib.hid (HB.out.mono hbase)
      have hbr:b < wr.heap.size:=by have:=HB.out.size;omega
      have hlo:i * 7 < 9223372036854775807:=by omega
      have HXE:=Lib.hid hx
      have HCM0:=Lib.hid hcm
      clear hC hcell hb hx hcm
      cases hpx:pr x
      · have HN2:Hid (∀ j (hj:j < l.length),j < i + 1 → pr (l[j]'hj) = false):=Lib.hid (fun j hj h => by by_cases e:j = i;(subst e;rw [← HXE.out];exact hpx);exact HN.out j hj (by omega))
        have hcm:=HCM0.out
        rw [hpx] at hcm
        clear hpx
        have HCM:=Lib.hid hcm;clear hcm
        go_wp2_with (first | (with_reducible refine ((HCM.out _ HBB.out).mono ?_);rintro e w' ⟨rfl,hb⟩;replace HB:=Lib.hid (bch' HB.out hb);clear hb))
        go_roundw
        case rel => exact ⟨i + 1,r,by first | rfl | simp,Lib.hid (by have:=hkr.out;omega),HB,HN2⟩
        case measure => first | (simp [intOf];done) | (simp [intOf];omega)
      · have HR:Hid (ixOf pr l = (i:Int)):=Lib.hid (ixOf_at hkl (by rw [← HXE.out];exact hpx) (fun j hj => HN.out j (by omega) hj))
        have hcm:=HCM0.out
        rw [hpx] at hcm
        clear hpx
        have HCM:=Lib.hid hcm;clear hcm
        go_wp2_with (first | (with_reducible refine ((HCM.out _ HBB.out).mono ?_);rintro e w' ⟨rfl,hb⟩;replace HB:=Lib.hid (bch' HB.out hb);clear hb))
        go_ret
        exact ⟨by rw [HR.out];rfl,HB.out⟩
theorem hnd2_delete (M : FuncId) (fv : Value) (fv2 : Value) (l : List Hnd) (pr : Hnd → Bool) (pp : Option Addr) (cc base : Nat) (w : World) (hO : OwnR encHd 7 base 77 w pp cc l) (hbase : base ≤ w.heap.size) (hn : l.length ≤ 1000000) (hF : ∀ args w, (callFunc M args).run Tryz.prog w = .ok (.enter M args) w)
    (hcm:∀ x ∈ l,∀ W,Below base w W → Calls Tryz.prog M #[.agg #[.int .i64 x.ch,.int .i64 x.at_,.string ⟨(x.fr).toArray⟩,.int .i64 x.pa,.int .i64 x.lv,.int .i64 x.st,.int .i64 x.ti],fv,fv2] W fun e w' => e = .returned (.bool (pr x)) ∧ Below W.heap.size W w') :
    Calls Tryz.prog 29 #[.slice pp l.length cc,.func (.func M) #[] #[fv,fv2]] w fun e w' => ∃ pp' cc',e = .returned (.slice pp' (l.filter fun x => !pr x).length cc') ∧ OwnR encHd 7 base 77 w' pp' cc' (l.filter fun x => !pr x) ∧ Below base w w':=by
  have hix:=hnd2_index M fv fv2 l pr pp cc base w (hO.row encHd_len) hbase hn hF hcm
  have hcc:=Lib.hid hcm;clear hcm
  have HO:=Lib.hid hO;clear hO
  have HB:=Lib.hid (Below.refl w.heap.size w)
  rcases first_ix pr l with hall | ⟨i,hil,hpi,hbef⟩
  · rw [ixOf_no hall] at hix
    have HE:=Lib.hid (kep_none hall)
    clear hall
    have HIX:=Lib.hid hix;clear hix
    go_enter Tryz.func29,Tryz.ntmps29
    go_wp2_with (first | (with_reducible refine ((HIX.out).mono ?_);rintro e w' ⟨rfl,hb⟩;replace HB:=Lib.hid (bch' HB.out hb);replace HO:=Lib.hid (HO.out.keep hb);clear hb))
    go_ret
    exact ⟨pp,cc,by rw [HE.out];rfl,by rw [HE.out];exact HO.out,HB.out.mono hbase⟩
  · rw [ixOf_at hil hpi hbef] at hix
    have hne:(((i:Nat):Int) == -1) = false:=by rw [beq_eq_false_iff_ne];omega
    have HPI:=Lib.hid hpi
    have HKF:=Lib.hid (kep_first hil hpi hbef)
    clear hpi hbef
    obtain ⟨g,cur0,rfl,hgb,-⟩:=HO.out.to_blk (fun h => by subst h;exact absurd hil (Nat.not_lt_zero _))
    have HGB:=Lib.hid hgb;clear hgb
    have HIX:=Lib.hid hix;clear hix
    have hun0:IntKind.i64.wrap ((i:Int) + 1) = (i:Int) + 1:=IntWalk.i64_in _ (by omega)
    go_enter Tryz.func29,Tryz.ntmps29
    go_wp2_with (first | (with_reducible refine ((HIX.out).mono ?_);rintro e w' ⟨rfl,hb⟩;replace HB:=Lib.hid (bch' HB.out hb);replace HO:=Lib.hid (HO.out.keep hb);clear hb))
    go_loopw [5,6] (fun s5 s6 wr => ∃ j r:Nat,s5 = .int .i64 ((kepL pr l j).length:Int) ∧ s6 = .int .i64 (j:Int) ∧ Hid (j + r = l.length) ∧ Hid (i < j) ∧ Hid (Below base w wr) ∧ Hid (OwnR encHd 7 base 77 wr (some ⟨g,0,none⟩) cc ((kepL pr l j) ++ l.drop (kepL pr l j).length))) (fun _ s6 _ => l.length - (intOf s6).toNat)
    case atStart => exact ⟨i + 1,l.length - (i + 1),by rw [HKF.out,List.length_take,Nat.min_eq_left (by omega)],by first | rfl | simp,Lib.hid (by omega),Lib.hid (by omega),Lib.hid (HB.out.mono hbase),Lib.hid (by rw [HKF.out,List.length_take,Nat.min_eq_left (by omega),List.take_append_drop];exact HO.out)⟩
    case round =>
      clear HB HO
      obtain ⟨j,r,rfl,rfl,hkr,hij,HB,HO⟩:=hrel
      cases r with
      | zero =>
        obtain rfl:j = l.length:=by have:=hkr.out;omega
        have hlt:¬ (l.length:Int) < (l.length:Int):=by omega
        have hm1:=kep_lt hil HPI.out _ hij.out (Nat.le_refl _)
        have HE:Hid ((kepL pr l l.length) = l.filter fun x => !pr x):=Lib.hid (kep_end pr l)
        obtain ⟨g2,cur,hp,hg2,hbk,hc1,hc2,hc3,hc4⟩:=HO.out.to_blk (fun e => by have h:=congrArg List.length e;rw [kept_len (by omega)] at h;have h2:l.length = 0:=h;omega)
        obtain rfl:g = g2:=by have:=Option.some.inj hp;injection this
        rw [kept_len (by omega)] at hc1
        have hKR:(l.drop (kepL pr l l.length).length).length = l.length - (kepL pr l l.length).length:=List.length_drop
        obtain ⟨w4,cs,hclr,hcl,hbk2,hbl2⟩:=clearK (P:=Tryz.prog) wr 24 77 (.agg #[.int .i64 0,.int .i64 0,.string ⟨#[]⟩,.int .i64 0,.int .i64 0,.int .i64 0,.int .i64 0]) 7 g ((kepL pr l l.length).length * 7) (l.length - (kepL pr l l.length).length) (cc - (kepL pr l l.length).length) cur Tryz.underlying24 (fun _ => by kernel_rfl) rfl (by decide) hbk (by omega) (by rw [hc3,← Nat.add_mul];exact Nat.mul_le_mul_right _ (by omega))
        have HFI:Hid (OwnR encHd 7 base 77 w4 (some ⟨g,0,none⟩) cc (kepL pr l l.length)):=Lib.hid (OwnR.cut (R:=l.drop (kepL pr l l.length).length) encHd_len hg2 (by rw [kept_len (by omega)];exact hc1) hc2 hc3 (by have h:=hc4;rw [kept_len (by omega)] at h ⊢;exact h) (by rw [hKR];exact hcl) hbk2)
        have HCL:=Lib.hid hclr;have HB4:Hid (Below base w w4):=Lib.hid (HB.out.trans (hbl2 base hg2))
        have hcap:¬ cc = (kepL pr l l.length).length:=by omega
        have hcc1:((kepL pr l l.length).length:Int) ≤ (cc:Int):=by omega
        have hm0:(0:Int) ≤ ((kepL pr l l.length).length:Int):=by omega
        have hml:((kepL pr l l.length).length:Int) ≤ (l.length:Int):=by omega
        have hcb:(cc:Int) ≤ 9223372036854775807:=by unfold maxLen at hc2;omega
        have hlc:(l.length:Int) ≤ (cc:Int):=by omega
        clear hclr hcl hbk2 hbl2 hbk hc1 hc2 hc3 hc4 hKR hm1 hp hg2
        generalize hK:(kepL pr l l.length) = K at *
        clear hK
        go_wp2_with (first | (with_reducible refine wpList_clear_run _ rfl (.tmp 38) 24 rfl _ rfl (HCL.out _) ?_))
        go_ret
        rw [← HE.out]
        exact ⟨_,_,rfl,HFI.out,HB4.out⟩
      | succ r =>
        have hjl:j < l.length:=by have:=hkr.out;omega
        have hlt:(j:Int) < (l.length:Int):=by omega
        have hj0:(0:Int) ≤ (j:Int):=by omega
        have hun:IntKind.i64.wrap ((j:Int) + 1) = (j:Int) + 1:=IntWalk.i64_in _ (by omega)
        have hm1:=kep_lt hil HPI.out _ hij.out (Nat.le_of_lt hjl)
        have hm2:(kepL pr l j).length < l.length:=by omega
        obtain ⟨x,hx⟩:∃ x,x = l[j]'hjl:=⟨_,rfl⟩
        have hxc:=HO.out.cellsAt encHd_len (i:=j) (x:=x) (by rw [kept_get (by omega),List.getElem?_eq_getElem hjl,hx])
        have x0:wr.cell? ⟨g,j * 7,none⟩ = some (.int .i64 x.ch):=hxc 0 _ rfl
        have x1:wr.cell? ⟨g,j * 7 + 1,none⟩ = some (.int .i64 x.at_):=hxc 1 _ rfl
        have x2:wr.cell? ⟨g,j * 7 + 2,none⟩ = some (.string ⟨(x.fr).toArray⟩):=hxc 2 _ rfl
        have x3:wr.cell? ⟨g,j * 7 + 3,none⟩ = some (.int .i64 x.pa):=hxc 3 _ rfl
        have x4:wr.cell? ⟨g,j * 7 + 4,none⟩ = some (.int .i64 x.lv):=hxc 4 _ rfl
        have x5:wr.cell? ⟨g,j * 7 + 5,none⟩ = some (.int .i64 x.st):=hxc 5 _ rfl
        have x6:wr.cell? ⟨g,j * 7 + 6,none⟩ = some (.int .i64 x.ti):=hxc 6 _ rfl
        have hgl:g < wr.heap.size:=by have:=(HO.out.lt _ rfl).2;exact this
        have hcm:=hcc.out x (by rw [hx];exact List.getElem_mem hjl)
        have hlo:j * 7 < 9223372036854775807:=by omega
        have HXE:=Lib.hid hx
        have HCM0:=Lib.hid hcm
        clear hxc hx hcm
        have hal:=(Below.refl wr.heap.size wr).alloc (Nat.le_refl _) (.cells #[.int .i64 x.ch,.int .i64 x.at_,.string ⟨(x.fr).toArray⟩,.int .i64 x.pa,.int .i64 x.lv,.int .i64 x.st,.int .i64 x.ti] 77)
        have HBW:=Lib.hid ((HB.out.trans (hal.mono (Nat.le_trans hbase HB.out.size))))
        replace HO:=Lib.hid (HO.out.keep hal)
        have HV:=Lib.hid (Blk.new wr 77 #[.int .i64 x.ch,.int .i64 x.at_,.string ⟨(x.fr).toArray⟩,.int .i64 x.pa,.int .i64 x.lv,.int .i64 x.st,.int .i64 x.ti])
        clear hal
        go_upto_region 8 with fail
        clear HB x0 x1 x2 x3 x4 x5 x6 hgl
        generalize wr.alloc (.cells #[.int .i64 x.ch,.int .i64 x.at_,.string ⟨(x.fr).toArray⟩,.int .i64 x.pa,.int .i64 x.lv,.int .i64 x.st,.int .i64 x.ti] 77) = wg at *
        have HB:=HBW;clear HBW
        generalize wr.heap.size = gv at *
        obtain ⟨v0,v1,v2,v3,v4,v5,v6,vf0,vf1,vf2,vf3,vf4,vf5,vf6⟩:=HV.out.c7
        have HBB:=HB
        cases hpx:pr x
        · have hK:(kepL pr l (j + 1)) = (kepL pr l j) ++ [x]:=by rw [HXE.out];exact kep_no hjl (by rw [← HXE.out];exact hpx)
          have HK:=Lib.hid hK;clear hK
          have hcm:=HCM0.out
          rw [hpx] at hcm
          clear hpx
          have HCM:=Lib.hid hcm;clear hcm
          generalize hq:(kepL pr l j) = K at *
          clear hq
          go_upto_region 9 with (first | (with_reducible refine ((HCM.out _ HBB.out).mono ?_);rintro e w' ⟨rfl,hb⟩;replace HV:=Lib.hid (HV.out.keep hb);clear v0 v1 v2 v3 v4 v5 v6 vf0 vf1 vf2 vf3 vf4 vf5 vf6;replace HO:=Lib.hid (HO.out.keep hb);replace HB:=Lib.hid (HB.out.trans (hb.mono (Nat.le_trans hbase HB.out.size)));clear hb;obtain ⟨v0,v1,v2,v3,v4,v5,v6,vf0,vf1,vf2,vf3,vf4,vf5,vf6⟩:=HV.out.c7))
          obtain ⟨y,hy⟩:∃ y,l[K.length]? = some y:=⟨_,List.getElem?_eq_getElem hm2⟩
          have hyc:=HO.out.cellsAt encHd_len (i:=K.length) (x:=y) (by rw [kept_get (Nat.le_refl _)];exact hy)
          have y0:w'.cell? ⟨g,K.length * 7,none⟩ = some (.int .i64 y.ch):=hyc 0 _ rfl
          have y1:w'.cell? ⟨g,K.length * 7 + 1,none⟩ = some (.int .i64 y.at_):=hyc 1 _ rfl
          have y2:w'.cell? ⟨g,K.length * 7 + 2,none⟩ = some (.string ⟨(y.fr).toArray⟩):=hyc 2 _ rfl
          have y3:w'.cell? ⟨g,K.length * 7 + 3,none⟩ = some (.int .i64 y.pa):=hyc 3 _ rfl
          have y4:w'.cell? ⟨g,K.length * 7 + 4,none⟩ = some (.int .i64 y.lv):=hyc 4 _ rfl
          have y5:w'.cell? ⟨g,K.length * 7 + 5,none⟩ = some (.int .i64 y.st):=hyc 5 _ rfl
          have y6:w'.cell? ⟨g,K.length * 7 + 6,none⟩ = some (.int .i64 y.ti):=hyc 6 _ rfl
          have hfr:=HO.out.frozenAt (fun e => by have h:=congrArg List.length e;rw [kept_len (by omega)] at h;have h2:l.length = 0:=h;omega)
          have z0:=hfr (K.length * 7)
          have z1:=hfr (K.length * 7 + 1)
          have z2:=hfr (K.length * 7 + 2)
          have z3:=hfr (K.length * 7 + 3)
          have z4:=hfr (K.length * 7 + 4)
          have z5:=hfr (K.length * 7 + 5)
          have z6:=hfr (K.length * 7 + 6)
          have hgl:g < w'.heap.size:=(HO.out.lt _ rfl).2
          have hm0:(0:Int) ≤ (K.length:Int):=by omega
          have hml:(K.length:Int) < (l.length:Int):=by omega
          have hmk:K.length * 7 < 9223372036854775807:=by omega
          clear hyc hfr hy
          have HO2:Hid (OwnR encHd 7 base 77 (((((((w'.setCell ⟨g,K.length * 7,none⟩ (.int .i64 x.ch)).setCell ⟨g,K.length * 7 + 1,none⟩ (.int .i64 x.at_)).setCell ⟨g,K.length * 7 + 2,none⟩ (.string ⟨(x.fr).toArray⟩)).setCell ⟨g,K.length * 7 + 3,none⟩ (.int .i64 x.pa)).setCell ⟨g,K.length * 7 + 4,none⟩ (.int .i64 x.lv)).setCell ⟨g,K.length * 7 + 5,none⟩ (.int .i64 x.st)).setCell ⟨g,K.length * 7 + 6,none⟩ (.int .i64 x.ti)) (some ⟨g,0,none⟩) cc ((K ++ [x]) ++ l.drop (K ++ [x]).length)):=Lib.hid (by have h:=HO.out.setk encHd_len (i:=K.length) (by rw [kept_len (by omega)];omega) x;rw [kept_set K l x hm2] at h;rw [List.length_append];exact h)
          have HB2:Hid (Below base w (((((((w'.setCell ⟨g,K.length * 7,none⟩ (.int .i64 x.ch)).setCell ⟨g,K.length * 7 + 1,none⟩ (.int .i64 x.at_)).setCell ⟨g,K.length * 7 + 2,none⟩ (.string ⟨(x.fr).toArray⟩)).setCell ⟨g,K.length * 7 + 3,none⟩ (.int .i64 x.pa)).setCell ⟨g,K.length * 7 + 4,none⟩ (.int .i64 x.lv)).setCell ⟨g,K.length * 7 + 5,none⟩ (.int .i64 x.st)).setCell ⟨g,K.length * 7 + 6,none⟩ (.int .i64 x.ti))):=Lib.hid ((((((((HB.out.setCell HGB.out _).setCell HGB.out _).setCell HGB.out _).setCell HGB.out _).setCell HGB.out _).setCell HGB.out _).setCell HGB.out _))
          go_upto_region 10 with fail
          clear HO HB y0 y1 y2 y3 y4 y5 y6 z0 z1 z2 z3 z4 z5 z6 hgl
          clear v0 v1 v2 v3 v4 v5 v6 vf0 vf1 vf2 vf3 vf4 vf5 vf6
          clear HV
          generalize ((((((w'.setCell ⟨g,K.length * 7,none⟩ (.int .i64 x.ch)).setCell ⟨g,K.length * 7 + 1,none⟩ (.int .i64 x.at_)).setCell ⟨g,K.length * 7 + 2,none⟩ (.string ⟨(x.fr).toArray⟩)).setCell ⟨g,K.length * 7 + 3,none⟩ (.int .i64 x.pa)).setCell ⟨g,K.length * 7 + 4,none⟩ (.int .i64 x.lv)).setCell ⟨g,K.length * 7 + 5,none⟩ (.int .i64 x.st)).setCell ⟨g,K.length * 7 + 6,none⟩ (.int .i64 x.ti) = w5 at *
          have hun2:IntKind.i64.wrap ((K.length:Int) + 1) = (K.length:Int) + 1:=IntWalk.i64_in _ (by omega)
          go_wp2_with fail
          go_roundw
          case rel => exact ⟨j + 1,r,by rw [HK.out,List.length_append];simp,by first | rfl | simp,Lib.hid (by have:=hkr.out;omega),Lib.hid (by have:=hij.out;omega),HB2,Lib.hid (by rw [HK.out];exact HO2.out)⟩
          case measure => first | (simp [intOf];done) | (simp [intOf];omega)
        · have hK:(kepL pr l (j + 1)) = (kepL pr l j):=kep_yes hjl (by rw [← HXE.out];exact hpx)
          have HK:=Lib.hid hK;clear hK
          have hcm:=HCM0.out
          rw [hpx] at hcm
          clear hpx hm1 hm2
          have HCM:=Lib.hid hcm;clear hcm
          generalize hq:(kepL pr l j) = K at *
          clear hq
          go_wp2_with (first | (with_reducible refine ((HCM.out _ HBB.out).mono ?_);rintro e w' ⟨rfl,hb⟩;replace HV:=Lib.hid (HV.out.keep hb);clear v0 v1 v2 v3 v4 v5 v6 vf0 vf1 vf2 vf3 vf4 vf5 vf6;replace HO:=Lib.hid (HO.out.keep hb);replace HB:=Lib.hid (HB.out.trans (hb.mono (Nat.le_trans hbase HB.out.size)));clear hb;obtain ⟨v0,v1,v2,v3,v4,v5,v6,vf0,vf1,vf2,vf3,vf4,vf5,vf6⟩:=HV.out.c7))
          go_roundw
          case rel => exact ⟨j + 1,r,by rw [HK.out],by first | rfl | simp,Lib.hid (by have:=hkr.out;omega),Lib.hid (by have:=hij.out;omega),HB,Lib.hid (by rw [HK.out];exact HO.out)⟩
          case measure => first | (simp [intOf];done) | (simp [intOf];omega)
theorem info_hd:(Tryz.prog.info? 77).map (fun i => (i.zero,i.size,i.bytes)) = some (some (.agg #[.int .i64 0,.int .i64 0,.string ⟨#[]⟩,.int .i64 0,.int .i64 0,.int .i64 0,.int .i64 0]),7,64):=by kernel_rfl
theorem own_hclone (w : World) (l : List Hnd) (p : Option Addr) (c : Nat) (hv1 : RowX encHd 7 w p l) (hn : l.length ≤ 1000000) :
    Calls Tryz.prog 30 #[.slice p l.length c] w fun e w' => ∃ pp cc,e = .returned (.slice pp l.length cc) ∧ OwnR encHd 7 w.heap.size 77 w' pp cc l ∧ Below w.heap.size w w':=by
  have hq:∀ (w:World) (a:Option Addr) (n c n2 c2:Nat),(binOp .eql 24 (.slice a n c) (.slice none n2 c2)).run Tryz.prog w = .ok (.bool a.isNone) w:=fun w a n c n2 c2 => Lib.run_eql_slice_nil w _ _ a n c n2 c2 Tryz.underlying24
  obtain ⟨i0,hi,hz0,hz1,hz2⟩:=info_parts info_hd
  have HN:=Lib.hid hn;clear hn
  cases p with
  | none =>
    have h0:l = []:=by
      by_cases h:l = []
      · exact h
      · obtain ⟨b,o,e,-⟩:=hv1 h;cases e
    clear hv1
    subst h0
    dsimp only [List.length_nil]
    go_enter Tryz.func30,Tryz.ntmps30
    go_wp2_with fail
    go_ret
    exact ⟨none,0,rfl,OwnR.nil _ _ _,Below.refl _ _⟩
  | some ad =>
    by_cases hl0:l = []
    · subst hl0
      clear hv1
      dsimp only [List.length_nil]
      go_enter Tryz.func30,Tryz.ntmps30
      have HA:Hid (∀ (j:Nat) (u:Value),(([]:List Hnd).flatMap encHd)[j]? = some u → w.cell? (ad.add j) = some u):=Lib.hid (fun j u h => by simp at h)
      go_wp2_with fail
      go_ret
      exact ⟨_,_,rfl,OwnR.made w 77,(Below.refl w.heap.size w).alloc (Nat.le_refl _) _⟩
    obtain ⟨b,off,had,-,hC⟩:=hv1 hl0
    obtain rfl:=Option.some.inj had
    have HA:Hid (∀ (j:Nat) (u:Value),(l.flatMap encHd)[j]? = some u → w.cell? ⟨b,off + j,none⟩ = some u):=Lib.hid (flat_cell encHd_len l (fun j => w.cell? ⟨b,off + j,none⟩) (fun i hi j v hv => by have:=hC i hi j v hv;rwa [Nat.add_assoc] at this))
    clear hv1 hC
    go_enter Tryz.func30,Tryz.ntmps30
    go_wp2_with (first | (at_builtin;refine wpList_appL rfl _ _ 24 rfl w.heap.size 77 i0 (.agg #[.int .i64 0,.int .i64 0,.string ⟨#[]⟩,.int .i64 0,.int .i64 0,.int .i64 0,.int .i64 0]) 64 Tryz.underlying24 hi hz0 hz1 hz2 rfl (by decide) (by decide) (some ⟨w.heap.size,0,none⟩) 0 0 [] rfl _ l b off c encHd_len (fun j u hu => Lib.cell?_alloc_some _ (HA.out j u hu)) (fun y _ => encHd_one y) rfl (OwnR.made w 77) rfl (by have:=HN.out;simp;omega) (by simp) ?_;intro p1 c1 w3 hO3 hb3;have HO3:=Lib.hid hO3;have HB3:=Lib.hid hb3;clear hO3 hb3))
    go_ret
    refine ⟨p1,c1,by simp,by simpa using HO3.out,?_⟩
    exact ((Below.refl w.heap.size w).alloc (Nat.le_refl _) _).trans HB3.out
end Go.Proofs.YtmjkenlifgmeeaaGreatDoor
namespace Lum
open Go Go.RowKit Go.Shelf
open Go.Lib (decDigits itoa)
section
variable {α:Type} {key:α → Int × Int}
def putStep (key:α → Int × Int) (h:α) (s:List α × Bool) (x:α):List α × Bool :=
  if key x = key h then (if !s.2 && !ltP (key x) (key h) then (s.1 ++ [h],true) else s) else ((if !s.2 && !ltP (key x) (key h) then (s.1 ++ [h],true) else s).1 ++ [x],(if !s.2 && !ltP (key x) (key h) then (s.1 ++ [h],true) else s).2)
def putF (key:α → Int × Int) (h:α) (l:List α):List α × Bool:=l.foldl (putStep key h) ([],false)
def putR (key:α → Int × Int) (h:α) (l:List α):List α:=if (putF key h l).2 = true then (putF key h l).1 else (putF key h l).1 ++ [h]
def putsR (key:α → Int × Int) (l f:List α):List α:=f.foldl (fun o h => putR key h o) l
end
def frsH (l:List Hnd) (t ti:Int) (e:Ent) (a:Amt):Hnd:=⟨e.ch,e.at_,if finB l e.ky = true then a.le else itoa (near (valR a.le)),e.pa,e.lv,t,ti⟩
def frsL (l:List Hnd) (t ti:Int) (es:List Ent) (now:List Amt):List Hnd:=List.zipWith (frsH l t ti) es now
theorem frsL_len {l:List Hnd} {t ti:Int} {es:List Ent} {now:List Amt} (h:now.length = es.length):(frsL l t ti es now).length = es.length:=by unfold frsL;rw [List.length_zipWith];omega
theorem frsL_at {l:List Hnd} {t ti:Int} {es:List Ent} {now:List Amt} {k:Nat} (h1:k < es.length) (h2:k < now.length):(frsL l t ti es now)[k]'(by unfold frsL;rw [List.length_zipWith];omega) = frsH l t ti (es[k]'h1) (now[k]'h2):=by unfold frsL;rw [List.getElem_zipWith]
theorem frsL_take {l:List Hnd} {t ti:Int} {es:List Ent} {now:List Amt} {k:Nat} (h1:k < es.length) (h2:k < now.length):(frsL l t ti es now).take (k + 1) = (frsL l t ti es now).take k ++ [frsH l t ti (es[k]'h1) (now[k]'h2)]:=by
  rw [List.take_succ_eq_append_getElem (by unfold frsL;rw [List.length_zipWith];omega),frsL_at h1 h2]
theorem frsL_asc {l:List Hnd} {t ti:Int}:∀ {es:List Ent} {now:List Amt},AscK Ent.ky es → AscK Hnd.ky (frsL l t ti es now):=by
  intro es now h
  refine List.pairwise_iff_getElem.2 fun i j hi hj hij => ?_
  have hl:(frsL l t ti es now).length = min es.length now.length:=by unfold frsL;rw [List.length_zipWith]
  have h1:=h.lt (i:=i) (j:=j) (by omega) hij
  rw [frsL_at (by omega) (by omega),frsL_at (by omega) (by omega)]
  exact h1
def entsE (es:List Ent):Int:=ordP 4096 entE Ent.ky es
def askE (l:List Hnd) (t:Int) (es:List Ent) (ti:Int) (now:List Amt):Int:=if hnsE l ≠ 0 then hnsE l else if entsE es ≠ 0 then entsE es else if ¬ timB t ti then 2 else fitE es now
def setL (l:List Hnd) (t:Int) (es:List Ent) (ti:Int) (now:List Amt):List Hnd:=putsK Hnd.ky l (frsL l t ti es now)
def setE (l:List Hnd) (t:Int) (es:List Ent) (ti:Int) (now:List Amt):Int:=if askE l t es ti now ≠ 0 then askE l t es ti now else if 256 < (setL l t es ti now).length then 5 else 0
def setO (l:List Hnd) (t:Int) (es:List Ent) (ti:Int) (now:List Amt):List Hnd:=if setE l t es ti now = 0 then setL l t es ti now else []
theorem askE_h {l:List Hnd} {t:Int} {es:List Ent} {ti:Int} {now:List Amt} (h:¬ hnsE l = 0):askE l t es ti now = hnsE l:=by unfold askE;rw [if_pos h]
theorem askE_e {l:List Hnd} {t:Int} {es:List Ent} {ti:Int} {now:List Amt} (h:hnsE l = 0) (h2:¬ entsE es = 0):askE l t es ti now = entsE es:=by unfold askE;rw [if_neg (by simpa using h),if_pos h2]
theorem askE_t {l:List Hnd} {t:Int} {es:List Ent} {ti:Int} {now:List Amt} (h:hnsE l = 0) (h2:entsE es = 0) (h3:¬ timB t ti):askE l t es ti now = 2:=by unfold askE;rw [if_neg (by simpa using h),if_neg (by simpa using h2),if_pos h3]
theorem askE_f {l:List Hnd} {t:Int} {es:List Ent} {ti:Int} {now:List Amt} (h:hnsE l = 0) (h2:entsE es = 0) (h3:timB t ti):askE l t es ti now = fitE es now:=by unfold askE;rw [if_neg (by simpa using h),if_neg (by simpa using h2),if_neg (fun g => g h3)]
theorem askE_zero {l:List Hnd} {t:Int} {es:List Ent} {ti:Int} {now:List Amt} (h:askE l t es ti now = 0):hnsE l = 0 ∧ entsE es = 0 ∧ timB t ti ∧ fitE es now = 0:=by
  by_cases h1:hnsE l = 0
  · by_cases h2:entsE es = 0
    · by_cases h3:timB t ti
      · rw [askE_f h1 h2 h3] at h;exact ⟨h1,h2,h3,h⟩
      · rw [askE_t h1 h2 h3] at h;cases h
    · rw [askE_e h1 h2] at h;exact absurd h h2
  · rw [askE_h h1] at h;exact absurd h h1
theorem setE_ask {l:List Hnd} {t:Int} {es:List Ent} {ti:Int} {now:List Amt} (h:¬ askE l t es ti now = 0):setE l t es ti now = askE l t es ti now:=by unfold setE;rw [if_pos h]
theorem setE_many {l:List Hnd} {t:Int} {es:List Ent} {ti:Int} {now:List Amt} (h:askE l t es ti now = 0) (h2:256 < (setL l t es ti now).length):setE l t es ti now = 5:=by unfold setE;rw [if_neg (by simpa using h),if_pos h2]
theorem setE_ok {l:List Hnd} {t:Int} {es:List Ent} {ti:Int} {now:List Amt} (h:askE l t es ti now = 0) (h2:¬ 256 < (setL l t es ti now).length):setE l t es ti now = 0:=by unfold setE;rw [if_neg (by simpa using h),if_neg h2]
def SetP (o:List Hnd) (n:Int) (w:World) (e:Ending) (w':World):Prop:=∃ v',e = .returned (.tuple #[v',.int .i64 n]) ∧ HndsAt w' v' o ∧ Below w.heap.size w w'
theorem SetP.nil {n:Int} {w w':World} {e:Ending} (he:e = .returned (.tuple #[.slice none 0 0,.int .i64 n])) (h:Below w.heap.size w w'):SetP [] n w e w':=⟨_,he,⟨none,0,rfl,fun h => absurd rfl h⟩,h⟩
theorem fitL_zero:∀ {es:List Ent} {now:List Amt},fitL es now = 0 → now.length = es.length → ∀ k (h1:k < es.length) (h2:k < now.length),(now[k]'h2).ky = (es[k]'h1).ky ∧ levE (now[k]'h2).le = 0:=by
  intro es
  induction es with
  | nil => intro now _ _ k h1;exact absurd h1 (Nat.not_lt_zero _)
  | cons e r ih =>
    intro now h hl k h1 h2
    cases now with
    | nil => exact absurd h2 (Nat.not_lt_zero _)
    | cons a s =>
      unfold fitL at h
      by_cases c:a.ky = e.ky
      · rw [if_pos c] at h
        by_cases d:levE a.le = 0
        · rw [if_pos d] at h
          cases k with
          | zero => exact ⟨c,d⟩
          | succ k => exact ih h (by simpa using hl) k (by simpa using h1) (by simpa using h2)
        · rw [if_neg d] at h;exact absurd h d
      · rw [if_neg c] at h;cases h
theorem fitE_zero {es:List Ent} {now:List Amt} (h:fitE es now = 0):now.length = es.length ∧ ∀ k (h1:k < es.length) (h2:k < now.length),(now[k]'h2).ky = (es[k]'h1).ky ∧ levE (now[k]'h2).le = 0:=by
  unfold fitE at h
  by_cases hl:now.length = es.length
  · rw [if_pos hl] at h;exact ⟨hl,fitL_zero h hl⟩
  · rw [if_neg hl] at h;cases h
theorem AscK.empty {α:Type} {key:α → Int × Int}:AscK key ([]:List α):=List.Pairwise.nil
end Lum
namespace Go.Proofs.YtmjkenlifgmeeaaGreatDoor
open Go.RowKit Go.Shelf Lum
open Go.Lib (decDigits itoa)
attribute [local go_sem] bs_get bs_extract_end bs_extract_from bs_extract bs_append
end Go.Proofs.YtmjkenlifgmeeaaGreatDoor
namespace Go.Proofs.YtmjkenlifgmeeaaGreatDoor
open Go.RowKit Go.Shelf Lum
open Go.Lib (decDigits itoa)
attribute [local go_sem] bs_get bs_extract_end bs_extract_from bs_extract bs_append
end Go.Proofs.YtmjkenlifgmeeaaGreatDoor
set_option maxRecDepth 100000
set_option maxHeartbeats 8000000
namespace Go.Proofs.YtmjkenlifgmeeaaGreatDoor
open Go.RowKit Go.Shelf Lum
open Go.Lib (decDigits itoa)
attribute [local go_sem] bs_get bs_extract_end bs_extract_from bs_extract bs_append
theorem hnd1_index (M : FuncId) (fv : Value) (l : List Hnd) (pr : Hnd → Bool) (pp : Option Addr) (cc base : Nat) (w : World) (hR : RowX encHd 7 w pp l) (hbase : base ≤ w.heap.size) (hn : l.length ≤ 1000000) (hF : ∀ args w, (callFunc M args).run Tryz.prog w = .ok (.enter M args) w)
    (hcm:∀ x ∈ l,∀ W,Below base w W → Calls Tryz.prog M #[.agg #[.int .i64 x.ch,.int .i64 x.at_,.string ⟨(x.fr).toArray⟩,.int .i64 x.pa,.int .i64 x.lv,.int .i64 x.st,.int .i64 x.ti],fv] W fun e w' => e = .returned (.bool (pr x)) ∧ Below W.heap.size W w') :
    Calls Tryz.prog 59 #[.slice pp l.length cc,.func (.func M) #[] #[fv]] w fun e w' => e = .returned (.int .i64 (ixOf pr l)) ∧ Below w.heap.size w w':=by
  have hv2:=Lib.hid hR;clear hR
  have hcc:=Lib.hid hcm;clear hcm
  have HB:=Lib.hid (Below.refl w.heap.size w)
  go_enter Tryz.func59,Tryz.ntmps59
  go_wp2_with fail
  go_loopw [8] (fun s8 wr => ∃ i r:Nat,s8 = .int .i64 (i:Int) ∧ Hid (i + r = l.length) ∧ Hid (Below w.heap.size w wr) ∧ Hid (∀ j (hj:j < l.length),j < i → pr (l[j]'hj) = false)) (fun s8 _ => l.length - (intOf s8).toNat)
  case atStart => exact ⟨0,l.length,rfl,Lib.hid (by omega),HB,Lib.hid (fun j hj h => absurd h (Nat.not_lt_zero _))⟩
  case round =>
    clear HB
    obtain ⟨i,r,rfl,hkr,HB,HN⟩:=hrel
    cases r with
    | zero =>
      have hlt:¬ (i:Int) < (l.length:Int):=by have:=hkr.out;omega
      have HR:Hid (ixOf pr l = -1):=Lib.hid (ixOf_no fun j hj => HN.out j hj (by have:=hkr.out;omega))
      go_wp2_with fail
      go_ret
      exact ⟨by rw [HR.out];rfl,HB.out⟩
    | succ r =>
      have hkl:i < l.length:=by have:=hkr.out;omega
      have hlt:(i:Int) < (l.length:Int):=by omega
      have hi0:(0:Int) ≤ (i:Int):=by omega
      have hun:IntKind.i64.wrap ((i:Int) + 1) = (i:Int) + 1:=IntWalk.i64_in _ (by omega)
      obtain ⟨b,o,rfl,hb,hC⟩:=hv2.out (fun h => by subst h;exact absurd hkl (Nat.not_lt_zero _))
      obtain ⟨x,hx⟩:∃ x,x = l[i]'hkl:=⟨_,rfl⟩
      have hcell:=hC i hkl
      rw [← hx] at hcell
      have x0:wr.cell? ⟨b,o + i * 7,none⟩ = some (.int .i64 x.ch):=(HB.out.cell (p:=⟨b,o + i * 7 + 0,none⟩) hb).trans (hcell 0 _ rfl)
      have x1:wr.cell? ⟨b,o + i * 7 + 1,none⟩ = some (.int .i64 x.at_):=(HB.out.cell (p:=⟨b,o + i * 7 + 1,none⟩) hb).trans (hcell 1 _ rfl)
      have x2:wr.cell? ⟨b,o + i * 7 + 2,none⟩ = some (.string ⟨(x.fr).toArray⟩):=(HB.out.cell (p:=⟨b,o + i * 7 + 2,none⟩) hb).trans (hcell 2 _ rfl)
      have x3:wr.cell? ⟨b,o + i * 7 + 3,none⟩ = some (.int .i64 x.pa):=(HB.out.cell (p:=⟨b,o + i * 7 + 3,none⟩) hb).trans (hcell 3 _ rfl)
      have x4:wr.cell? ⟨b,o + i * 7 + 4,none⟩ = some (.int .i64 x.lv):=(HB.out.cell (p:=⟨b,o + i * 7 + 4,none⟩) hb).trans (hcell 4 _ rfl)
      have x5:wr.cell? ⟨b,o + i * 7 + 5,none⟩ = some (.int .i64 x.st):=(HB.out.cell (p:=⟨b,o + i * 7 + 5,none⟩) hb).trans (hcell 5 _ rfl)
      have x6:wr.cell? ⟨b,o + i * 7 + 6,none⟩ = some (.int .i64 x.ti):=(HB.out.cell (p:=⟨b,o + i * 7 + 6,none⟩) hb).trans (hcell 6 _ rfl)
      have hcm:=hcc.out x (by rw [hx];exact List.getElem_mem hkl)
      have HBB:=Lib.hid (HB.out.mono hbase)
      have hbr:b < wr.heap.size:=by have:=HB.out.size;omega
      have hlo:i * 7 < 9223372036854775807:=by omega
      have HXE:=Lib.hid hx
      have HCM0:=Lib.hid hcm
      clear hC hcell hb hx hcm
      cases hpx:pr x
      · have HN2:Hid (∀ j (hj:j < l.length),j < i + 1 → pr (l[j]'hj) = false):=Lib.hid (fun j hj h => by by_cases e:j = i;(subst e;rw [← HXE.out];exact hpx);exact HN.out j hj (by omega))
        have hcm:=HCM0.out
        rw [hpx] at hcm
        clear hpx
        have HCM:=Lib.hid hcm;clear hcm
        go_wp2_with (first | (with_reducible refine ((HCM.out _ HBB.out).mono ?_);rintro e w' ⟨rfl,hb⟩;replace HB:=Lib.hid (bch' HB.out hb);clear hb))
        go_roundw
        case rel => exact ⟨i + 1,r,by first | rfl | simp,Lib.hid (by have:=hkr.out;omega),HB,HN2⟩
        case measure => first | (simp [intOf];done) | (simp [intOf];omega)
      · have HR:Hid (ixOf pr l = (i:Int)):=Lib.hid (ixOf_at hkl (by rw [← HXE.out];exact hpx) (fun j hj => HN.out j (by omega) hj))
        have hcm:=HCM0.out
        rw [hpx] at hcm
        clear hpx
        have HCM:=Lib.hid hcm;clear hcm
        go_wp2_with (first | (with_reducible refine ((HCM.out _ HBB.out).mono ?_);rintro e w' ⟨rfl,hb⟩;replace HB:=Lib.hid (bch' HB.out hb);clear hb))
        go_ret
        exact ⟨by rw [HR.out];rfl,HB.out⟩
theorem hnd1_delete (M : FuncId) (fv : Value) (l : List Hnd) (pr : Hnd → Bool) (pp : Option Addr) (cc base : Nat) (w : World) (hO : OwnR encHd 7 base 77 w pp cc l) (hbase : base ≤ w.heap.size) (hn : l.length ≤ 1000000) (hF : ∀ args w, (callFunc M args).run Tryz.prog w = .ok (.enter M args) w)
    (hcm:∀ x ∈ l,∀ W,Below base w W → Calls Tryz.prog M #[.agg #[.int .i64 x.ch,.int .i64 x.at_,.string ⟨(x.fr).toArray⟩,.int .i64 x.pa,.int .i64 x.lv,.int .i64 x.st,.int .i64 x.ti],fv] W fun e w' => e = .returned (.bool (pr x)) ∧ Below W.heap.size W w') :
    Calls Tryz.prog 29 #[.slice pp l.length cc,.func (.func M) #[] #[fv]] w fun e w' => ∃ pp' cc',e = .returned (.slice pp' (l.filter fun x => !pr x).length cc') ∧ OwnR encHd 7 base 77 w' pp' cc' (l.filter fun x => !pr x) ∧ Below base w w':=by
  have hix:=hnd1_index M fv l pr pp cc base w (hO.row encHd_len) hbase hn hF hcm
  have hcc:=Lib.hid hcm;clear hcm
  have HO:=Lib.hid hO;clear hO
  have HB:=Lib.hid (Below.refl w.heap.size w)
  rcases first_ix pr l with hall | ⟨i,hil,hpi,hbef⟩
  · rw [ixOf_no hall] at hix
    have HE:=Lib.hid (kep_none hall)
    clear hall
    have HIX:=Lib.hid hix;clear hix
    go_enter Tryz.func29,Tryz.ntmps29
    go_wp2_with (first | (with_reducible refine ((HIX.out).mono ?_);rintro e w' ⟨rfl,hb⟩;replace HB:=Lib.hid (bch' HB.out hb);replace HO:=Lib.hid (HO.out.keep hb);clear hb))
    go_ret
    exact ⟨pp,cc,by rw [HE.out];rfl,by rw [HE.out];exact HO.out,HB.out.mono hbase⟩
  · rw [ixOf_at hil hpi hbef] at hix
    have hne:(((i:Nat):Int) == -1) = false:=by rw [beq_eq_false_iff_ne];omega
    have HPI:=Lib.hid hpi
    have HKF:=Lib.hid (kep_first hil hpi hbef)
    clear hpi hbef
    obtain ⟨g,cur0,rfl,hgb,-⟩:=HO.out.to_blk (fun h => by subst h;exact absurd hil (Nat.not_lt_zero _))
    have HGB:=Lib.hid hgb;clear hgb
    have HIX:=Lib.hid hix;clear hix
    have hun0:IntKind.i64.wrap ((i:Int) + 1) = (i:Int) + 1:=IntWalk.i64_in _ (by omega)
    go_enter Tryz.func29,Tryz.ntmps29
    go_wp2_with (first | (with_reducible refine ((HIX.out).mono ?_);rintro e w' ⟨rfl,hb⟩;replace HB:=Lib.hid (bch' HB.out hb);replace HO:=Lib.hid (HO.out.keep hb);clear hb))
    go_loopw [5,6] (fun s5 s6 wr => ∃ j r:Nat,s5 = .int .i64 ((kepL pr l j).length:Int) ∧ s6 = .int .i64 (j:Int) ∧ Hid (j + r = l.length) ∧ Hid (i < j) ∧ Hid (Below base w wr) ∧ Hid (OwnR encHd 7 base 77 wr (some ⟨g,0,none⟩) cc ((kepL pr l j) ++ l.drop (kepL pr l j).length))) (fun _ s6 _ => l.length - (intOf s6).toNat)
    case atStart => exact ⟨i + 1,l.length - (i + 1),by rw [HKF.out,List.length_take,Nat.min_eq_left (by omega)],by first | rfl | simp,Lib.hid (by omega),Lib.hid (by omega),Lib.hid (HB.out.mono hbase),Lib.hid (by rw [HKF.out,List.length_take,Nat.min_eq_left (by omega),List.take_append_drop];exact HO.out)⟩
    case round =>
      clear HB HO
      obtain ⟨j,r,rfl,rfl,hkr,hij,HB,HO⟩:=hrel
      cases r with
      | zero =>
        obtain rfl:j = l.length:=by have:=hkr.out;omega
        have hlt:¬ (l.length:Int) < (l.length:Int):=by omega
        have hm1:=kep_lt hil HPI.out _ hij.out (Nat.le_refl _)
        have HE:Hid ((kepL pr l l.length) = l.filter fun x => !pr x):=Lib.hid (kep_end pr l)
        obtain ⟨g2,cur,hp,hg2,hbk,hc1,hc2,hc3,hc4⟩:=HO.out.to_blk (fun e => by have h:=congrArg List.length e;rw [kept_len (by omega)] at h;have h2:l.length = 0:=h;omega)
        obtain rfl:g = g2:=by have:=Option.some.inj hp;injection this
        rw [kept_len (by omega)] at hc1
        have hKR:(l.drop (kepL pr l l.length).length).length = l.length - (kepL pr l l.length).length:=List.length_drop
        obtain ⟨w4,cs,hclr,hcl,hbk2,hbl2⟩:=clearK (P:=Tryz.prog) wr 24 77 (.agg #[.int .i64 0,.int .i64 0,.string ⟨#[]⟩,.int .i64 0,.int .i64 0,.int .i64 0,.int .i64 0]) 7 g ((kepL pr l l.length).length * 7) (l.length - (kepL pr l l.length).length) (cc - (kepL pr l l.length).length) cur Tryz.underlying24 (fun _ => by kernel_rfl) rfl (by decide) hbk (by omega) (by rw [hc3,← Nat.add_mul];exact Nat.mul_le_mul_right _ (by omega))
        have HFI:Hid (OwnR encHd 7 base 77 w4 (some ⟨g,0,none⟩) cc (kepL pr l l.length)):=Lib.hid (OwnR.cut (R:=l.drop (kepL pr l l.length).length) encHd_len hg2 (by rw [kept_len (by omega)];exact hc1) hc2 hc3 (by have h:=hc4;rw [kept_len (by omega)] at h ⊢;exact h) (by rw [hKR];exact hcl) hbk2)
        have HCL:=Lib.hid hclr;have HB4:Hid (Below base w w4):=Lib.hid (HB.out.trans (hbl2 base hg2))
        have hcap:¬ cc = (kepL pr l l.length).length:=by omega
        have hcc1:((kepL pr l l.length).length:Int) ≤ (cc:Int):=by omega
        have hm0:(0:Int) ≤ ((kepL pr l l.length).length:Int):=by omega
        have hml:((kepL pr l l.length).length:Int) ≤ (l.length:Int):=by omega
        have hcb:(cc:Int) ≤ 9223372036854775807:=by unfold maxLen at hc2;omega
        have hlc:(l.length:Int) ≤ (cc:Int):=by omega
        clear hclr hcl hbk2 hbl2 hbk hc1 hc2 hc3 hc4 hKR hm1 hp hg2
        generalize hK:(kepL pr l l.length) = K at *
        clear hK
        go_wp2_with (first | (with_reducible refine wpList_clear_run _ rfl (.tmp 38) 24 rfl _ rfl (HCL.out _) ?_))
        go_ret
        rw [← HE.out]
        exact ⟨_,_,rfl,HFI.out,HB4.out⟩
      | succ r =>
        have hjl:j < l.length:=by have:=hkr.out;omega
        have hlt:(j:Int) < (l.length:Int):=by omega
        have hj0:(0:Int) ≤ (j:Int):=by omega
        have hun:IntKind.i64.wrap ((j:Int) + 1) = (j:Int) + 1:=IntWalk.i64_in _ (by omega)
        have hm1:=kep_lt hil HPI.out _ hij.out (Nat.le_of_lt hjl)
        have hm2:(kepL pr l j).length < l.length:=by omega
        obtain ⟨x,hx⟩:∃ x,x = l[j]'hjl:=⟨_,rfl⟩
        have hxc:=HO.out.cellsAt encHd_len (i:=j) (x:=x) (by rw [kept_get (by omega),List.getElem?_eq_getElem hjl,hx])
        have x0:wr.cell? ⟨g,j * 7,none⟩ = some (.int .i64 x.ch):=hxc 0 _ rfl
        have x1:wr.cell? ⟨g,j * 7 + 1,none⟩ = some (.int .i64 x.at_):=hxc 1 _ rfl
        have x2:wr.cell? ⟨g,j * 7 + 2,none⟩ = some (.string ⟨(x.fr).toArray⟩):=hxc 2 _ rfl
        have x3:wr.cell? ⟨g,j * 7 + 3,none⟩ = some (.int .i64 x.pa):=hxc 3 _ rfl
        have x4:wr.cell? ⟨g,j * 7 + 4,none⟩ = some (.int .i64 x.lv):=hxc 4 _ rfl
        have x5:wr.cell? ⟨g,j * 7 + 5,none⟩ = some (.int .i64 x.st):=hxc 5 _ rfl
        have x6:wr.cell? ⟨g,j * 7 + 6,none⟩ = some (.int .i64 x.ti):=hxc 6 _ rfl
        have hgl:g < wr.heap.size:=by have:=(HO.out.lt _ rfl).2;exact this
        have hcm:=hcc.out x (by rw [hx];exact List.getElem_mem hjl)
        have hlo:j * 7 < 9223372036854775807:=by omega
        have HXE:=Lib.hid hx
        have HCM0:=Lib.hid hcm
        clear hxc hx hcm
        have hal:=(Below.refl wr.heap.size wr).alloc (Nat.le_refl _) (.cells #[.int .i64 x.ch,.int .i64 x.at_,.string ⟨(x.fr).toArray⟩,.int .i64 x.pa,.int .i64 x.lv,.int .i64 x.st,.int .i64 x.ti] 77)
        have HBW:=Lib.hid ((HB.out.trans (hal.mono (Nat.le_trans hbase HB.out.size))))
        replace HO:=Lib.hid (HO.out.keep hal)
        have HV:=Lib.hid (Blk.new wr 77 #[.int .i64 x.ch,.int .i64 x.at_,.string ⟨(x.fr).toArray⟩,.int .i64 x.pa,.int .i64 x.lv,.int .i64 x.st,.int .i64 x.ti])
        clear hal
        go_upto_region 8 with fail
        clear HB x0 x1 x2 x3 x4 x5 x6 hgl
        generalize wr.alloc (.cells #[.int .i64 x.ch,.int .i64 x.at_,.string ⟨(x.fr).toArray⟩,.int .i64 x.pa,.int .i64 x.lv,.int .i64 x.st,.int .i64 x.ti] 77) = wg at *
        have HB:=HBW;clear HBW
        generalize wr.heap.size = gv at *
        obtain ⟨v0,v1,v2,v3,v4,v5,v6,vf0,vf1,vf2,vf3,vf4,vf5,vf6⟩:=HV.out.c7
        have HBB:=HB
        cases hpx:pr x
        · have hK:(kepL pr l (j + 1)) = (kepL pr l j) ++ [x]:=by rw [HXE.out];exact kep_no hjl (by rw [← HXE.out];exact hpx)
          have HK:=Lib.hid hK;clear hK
          have hcm:=HCM0.out
          rw [hpx] at hcm
          clear hpx
          have HCM:=Lib.hid hcm;clear hcm
          generalize hq:(kepL pr l j) = K at *
          clear hq
          go_upto_region 9 with (first | (with_reducible refine ((HCM.out _ HBB.out).mono ?_);rintro e w' ⟨rfl,hb⟩;replace HV:=Lib.hid (HV.out.keep hb);clear v0 v1 v2 v3 v4 v5 v6 vf0 vf1 vf2 vf3 vf4 vf5 vf6;replace HO:=Lib.hid (HO.out.keep hb);replace HB:=Lib.hid (HB.out.trans (hb.mono (Nat.le_trans hbase HB.out.size)));clear hb;obtain ⟨v0,v1,v2,v3,v4,v5,v6,vf0,vf1,vf2,vf3,vf4,vf5,vf6⟩:=HV.out.c7))
          obtain ⟨y,hy⟩:∃ y,l[K.length]? = some y:=⟨_,List.getElem?_eq_getElem hm2⟩
          have hyc:=HO.out.cellsAt encHd_len (i:=K.length) (x:=y) (by rw [kept_get (Nat.le_refl _)];exact hy)
          have y0:w'.cell? ⟨g,K.length * 7,none⟩ = some (.int .i64 y.ch):=hyc 0 _ rfl
          have y1:w'.cell? ⟨g,K.length * 7 + 1,none⟩ = some (.int .i64 y.at_):=hyc 1 _ rfl
          have y2:w'.cell? ⟨g,K.length * 7 + 2,none⟩ = some (.string ⟨(y.fr).toArray⟩):=hyc 2 _ rfl
          have y3:w'.cell? ⟨g,K.length * 7 + 3,none⟩ = some (.int .i64 y.pa):=hyc 3 _ rfl
          have y4:w'.cell? ⟨g,K.length * 7 + 4,none⟩ = some (.int .i64 y.lv):=hyc 4 _ rfl
          have y5:w'.cell? ⟨g,K.length * 7 + 5,none⟩ = some (.int .i64 y.st):=hyc 5 _ rfl
          have y6:w'.cell? ⟨g,K.length * 7 + 6,none⟩ = some (.int .i64 y.ti):=hyc 6 _ rfl
          have hfr:=HO.out.frozenAt (fun e => by have h:=congrArg List.length e;rw [kept_len (by omega)] at h;have h2:l.length = 0:=h;omega)
          have z0:=hfr (K.length * 7)
          have z1:=hfr (K.length * 7 + 1)
          have z2:=hfr (K.length * 7 + 2)
          have z3:=hfr (K.length * 7 + 3)
          have z4:=hfr (K.length * 7 + 4)
          have z5:=hfr (K.length * 7 + 5)
          have z6:=hfr (K.length * 7 + 6)
          have hgl:g < w'.heap.size:=(HO.out.lt _ rfl).2
          have hm0:(0:Int) ≤ (K.length:Int):=by omega
          have hml:(K.length:Int) < (l.length:Int):=by omega
          have hmk:K.length * 7 < 9223372036854775807:=by omega
          clear hyc hfr hy
          have HO2:Hid (OwnR encHd 7 base 77 (((((((w'.setCell ⟨g,K.length * 7,none⟩ (.int .i64 x.ch)).setCell ⟨g,K.length * 7 + 1,none⟩ (.int .i64 x.at_)).setCell ⟨g,K.length * 7 + 2,none⟩ (.string ⟨(x.fr).toArray⟩)).setCell ⟨g,K.length * 7 + 3,none⟩ (.int .i64 x.pa)).setCell ⟨g,K.length * 7 + 4,none⟩ (.int .i64 x.lv)).setCell ⟨g,K.length * 7 + 5,none⟩ (.int .i64 x.st)).setCell ⟨g,K.length * 7 + 6,none⟩ (.int .i64 x.ti)) (some ⟨g,0,none⟩) cc ((K ++ [x]) ++ l.drop (K ++ [x]).length)):=Lib.hid (by have h:=HO.out.setk encHd_len (i:=K.length) (by rw [kept_len (by omega)];omega) x;rw [kept_set K l x hm2] at h;rw [List.length_append];exact h)
          have HB2:Hid (Below base w (((((((w'.setCell ⟨g,K.length * 7,none⟩ (.int .i64 x.ch)).setCell ⟨g,K.length * 7 + 1,none⟩ (.int .i64 x.at_)).setCell ⟨g,K.length * 7 + 2,none⟩ (.string ⟨(x.fr).toArray⟩)).setCell ⟨g,K.length * 7 + 3,none⟩ (.int .i64 x.pa)).setCell ⟨g,K.length * 7 + 4,none⟩ (.int .i64 x.lv)).setCell ⟨g,K.length * 7 + 5,none⟩ (.int .i64 x.st)).setCell ⟨g,K.length * 7 + 6,none⟩ (.int .i64 x.ti))):=Lib.hid ((((((((HB.out.setCell HGB.out _).setCell HGB.out _).setCell HGB.out _).setCell HGB.out _).setCell HGB.out _).setCell HGB.out _).setCell HGB.out _))
          go_upto_region 10 with fail
          clear HO HB y0 y1 y2 y3 y4 y5 y6 z0 z1 z2 z3 z4 z5 z6 hgl
          clear v0 v1 v2 v3 v4 v5 v6 vf0 vf1 vf2 vf3 vf4 vf5 vf6
          clear HV
          generalize ((((((w'.setCell ⟨g,K.length * 7,none⟩ (.int .i64 x.ch)).setCell ⟨g,K.length * 7 + 1,none⟩ (.int .i64 x.at_)).setCell ⟨g,K.length * 7 + 2,none⟩ (.string ⟨(x.fr).toArray⟩)).setCell ⟨g,K.length * 7 + 3,none⟩ (.int .i64 x.pa)).setCell ⟨g,K.length * 7 + 4,none⟩ (.int .i64 x.lv)).setCell ⟨g,K.length * 7 + 5,none⟩ (.int .i64 x.st)).setCell ⟨g,K.length * 7 + 6,none⟩ (.int .i64 x.ti) = w5 at *
          have hun2:IntKind.i64.wrap ((K.length:Int) + 1) = (K.length:Int) + 1:=IntWalk.i64_in _ (by omega)
          go_wp2_with fail
          go_roundw
          case rel => exact ⟨j + 1,r,by rw [HK.out,List.length_append];simp,by first | rfl | simp,Lib.hid (by have:=hkr.out;omega),Lib.hid (by have:=hij.out;omega),HB2,Lib.hid (by rw [HK.out];exact HO2.out)⟩
          case measure => first | (simp [intOf];done) | (simp [intOf];omega)
        · have hK:(kepL pr l (j + 1)) = (kepL pr l j):=kep_yes hjl (by rw [← HXE.out];exact hpx)
          have HK:=Lib.hid hK;clear hK
          have hcm:=HCM0.out
          rw [hpx] at hcm
          clear hpx hm1 hm2
          have HCM:=Lib.hid hcm;clear hcm
          generalize hq:(kepL pr l j) = K at *
          clear hq
          go_wp2_with (first | (with_reducible refine ((HCM.out _ HBB.out).mono ?_);rintro e w' ⟨rfl,hb⟩;replace HV:=Lib.hid (HV.out.keep hb);clear v0 v1 v2 v3 v4 v5 v6 vf0 vf1 vf2 vf3 vf4 vf5 vf6;replace HO:=Lib.hid (HO.out.keep hb);replace HB:=Lib.hid (HB.out.trans (hb.mono (Nat.le_trans hbase HB.out.size)));clear hb;obtain ⟨v0,v1,v2,v3,v4,v5,v6,vf0,vf1,vf2,vf3,vf4,vf5,vf6⟩:=HV.out.c7))
          go_roundw
          case rel => exact ⟨j + 1,r,by rw [HK.out],by first | rfl | simp,Lib.hid (by have:=hkr.out;omega),Lib.hid (by have:=hij.out;omega),HB,Lib.hid (by rw [HK.out];exact HO.out)⟩
          case measure => first | (simp [intOf];done) | (simp [intOf];omega)
end Go.Proofs.YtmjkenlifgmeeaaGreatDoor
