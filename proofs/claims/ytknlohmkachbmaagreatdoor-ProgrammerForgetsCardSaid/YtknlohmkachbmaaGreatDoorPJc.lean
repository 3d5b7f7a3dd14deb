/-
  
-/
import Derived.Test.YtknlohmkachbmaaGreatDoorPJa
import Derived.Test.YtknlohmkachbmaaGreatDoorPHl
import Derived.WalkSpells
import Derived.Lib.SliceRun
set_option linter.unusedVariables false
set_option linter.unusedSimpArgs false
set_option maxRecDepth 100000
set_option maxHeartbeats 8000000
namespace Go.Proofs.YtknlohmkachbmaaGreatDoor
open Go.RowKit Go.Shelf Lum
open Go.Lib (decDigits itoa)
attribute [local go_sem] bs_get bs_extract_end bs_extract_from bs_extract bs_append
theorem hnd2_index (M : FuncId) (fv : Value) (fv2 : Value) (l : List Hnd) (pr : Hnd → Bool) (pp : Option Addr) (cc base : Nat) (w : World) (hR : RowX encHd 7 w pp l) (hbase : base ≤ w.heap.size) (hn : l.length ≤ 1000000) (hF : ∀ args w, (callFunc M args).run Tryz.prog w = .ok (.enter M args) w)
    (hcm:∀ x ∈ l,∀ W,Below base w W → Calls Tryz.prog M #[.agg #[.int .i64 x.ch,.int .i64 x.at_,.string ⟨(x.fr).toArray⟩,.int .i64 x.pa,.int .i64 x.lv,.int .i64 x.st,.int .i64 x.ti],fv,fv2] W fun e w' => e = .returned (.bool (pr x)) ∧ Below W.heap.size W w') :
    Calls Tryz.prog 108 #[.slice pp l.length cc,.func (.func M) #[] #[fv,fv2]] w fun e w' => e = .returned (.int .i64 (ixOf pr l)) ∧ Below w.heap.size w w':=by
  have hv2:=Lib.hid hR;clear hR
  have hcc:=Lib.hid hcm;clear hcm
  have HB:=Lib.hid (Below.refl w.heap.size w)
  go_enter Tryz.func108,Tryz.ntmps108
  go_wp2_with fail
  go_loopw [8] (fun s8 wr => ∃ i r:Nat,s8 = .int .i64 (i:Int) ∧ Hid (i + r = l.length) ∧ Hid (Below w.heap.size w wr) ∧ Hid (∀ j (hj:j < l.length),j < i → pr (l[j]'hj) = false)) (fun s8 _ => l.length - (intOf s8).toNat)
  case atStart => exact ⟨0,l.length,rfl,Lib.hid (by omega),HB,Lib.hid (fun j hj h => absurd h (Nat.not_lt_zero _))⟩
  case round =>
    clear HB
    obtain ⟨i,r,rfl,hkr,HB,HN⟩:=hrel
    cases r with
    | zero =>
      have hlt:¬ (i:Int) < (l.length:Int):=by have:=hkr.out;omega
      have HR:Hid (ixOf pr l = -1):=Lib.hid (ixOf_no fun j hj => HN.out j hj (by have:=hkr.out;omega))
      go_wp2_with fail
      go_ret
      exact ⟨by rw [HR.out];rfl,HB.out⟩
    | succ r =>
      have hkl:i < l.length:=by have:=hkr.out;omega
      have hlt:(i:Int) < (l.length:Int):=by omega
      have hi0:(0:Int) ≤ (i:Int):=by omega
      have hun:IntKind.i64.wrap ((i:Int) + 1) = (i:Int) + 1:=IntWalk.i64_in _ (by omega)
      obtain ⟨b,o,rfl,hb,hC⟩:=hv2.out (fun h => by subst h;exact absurd hkl (Nat.not_lt_zero _))
      obtain ⟨x,hx⟩:∃ x,x = l[i]'hkl:=⟨_,rfl⟩
      have hcell:=hC i hkl
      rw [← hx] at hcell
      have x0:wr.cell? ⟨b,o + i * 7,none⟩ = some (.int .i64 x.ch):=(HB.out.cell (p:=⟨b,o + i * 7 + 0,none⟩) hb).trans (hcell 0 _ rfl)
      have x1:wr.cell? ⟨b,o + i * 7 + 1,none⟩ = some (.int .i64 x.at_):=(HB.out.cell (p:=⟨b,o + i * 7 + 1,none⟩) hb).trans (hcell 1 _ rfl)
      have x2:wr.cell? ⟨b,o + i * 7 + 2,none⟩ = some (.string ⟨(x.fr).toArray⟩):=(HB.out.cell (p:=⟨b,o + i * 7 + 2,none⟩) hb).trans (hcell 2 _ rfl)
      have x3:wr.cell? ⟨b,o + i * 7 + 3,none⟩ = some (.int .i64 x.pa):=(HB.out.cell (p:=⟨b,o + i * 7 + 3,none⟩) hb).trans (hcell 3 _ rfl)
      have x4:wr.cell? ⟨b,o + i * 7 + 4,none⟩ = some (.int .i64 x.lv):=(HB.out.cell (p:=⟨b,o + i * 7 + 4,none⟩) hb).trans (hcell 4 _ rfl)
      have x5:wr.cell? ⟨b,o + i * 7 + 5,none⟩ = some (.int .i64 x.st):=(HB.out.cell (p:=⟨b,o + i * 7 + 5,none⟩) hb).trans (hcell 5 _ rfl)
      have x6:wr.cell? ⟨b,o + i * 7 + 6,none⟩ = some (.int .i64 x.ti):=(HB.out.cell (p:=⟨b,o + i * 7 + 6,none⟩) hb).trans (hcell 6 _ rfl)
      have hcm:=hcc.out x (by rw [hx];exact List.getElem_mem hkl)
      have HBB:=Lib.hid (HB.out.mono hbase)
      have hbr:b < wr.heap.size:=by have:=HB.out.size;omega
      have hlo:i * 7 < 9223372036854775807:=by omega
      have HXE:=Lib.hid hx
      have HCM0:=Lib.hid hcm
      clear hC hcell hb hx hcm
      cases hpx:pr x
      · have HN2:Hid (∀ j (hj:j < l.length),j < i + 1 → pr (l[j]'hj) = false):=Lib.hid (fun j hj h => by by_cases e:j = i;(subst e;rw [← HXE.out];exact hpx);exact HN.out j hj (by omega))
        have hcm:=HCM0.out
        rw [hpx] at hcm
        clear hpx
        have HCM:=Lib.hid hcm;clear hcm
        go_wp2_with (first | (with_reducible refine ((HCM.out _ HBB.out).mono ?_);rintro e w' ⟨rfl,hb⟩;replace HB:=Lib.hid (bch' HB.out hb);clear hb))
        go_roundw
        case rel => exact ⟨i + 1,r,by first | rfl | simp,Lib.hid (by have:=hkr.out;omega),HB,HN2⟩
        case measure => first | (simp [intOf];done) | (simp [intOf];omega)
      · have HR:Hid (ixOf pr l = (i:Int)):=Lib.hid (ixOf_at hkl (by rw [← HXE.out];exact hpx) (fun j hj => HN.out j (by omega) hj))
        have hcm:=HCM0.out
        rw [hpx] at hcm
        clear hpx
        have HCM:=Lib.hid hcm;clear hcm
        go_wp2_with (first | (with_reducible refine ((HCM.out _ HBB.out).mono ?_);rintro e w' ⟨rfl,hb⟩;replace HB:=Lib.hid (bch' HB.out hb);clear hb))
        go_ret
        exact ⟨by rw [HR.out];rfl,HB.out⟩
theorem hnd2_delete (M : FuncId) (fv : Value) (fv2 : Value) (l : List Hnd) (pr : Hnd → Bool) (pp : Option Addr) (cc base : Nat) (w : World) (hO : OwnR encHd 7 base 28 w pp cc l) (hbase : base ≤ w.heap.size) (hn : l.length ≤ 1000000) (hF : ∀ args w, (callFunc M args).run Tryz.prog w = .ok (.enter M args) w)
    (hcm:∀ x ∈ l,∀ W,Below base w W → Calls Tryz.prog M #[.agg #[.int .i64 x.ch,.int .i64 x.at_,.string ⟨(x.fr).toArray⟩,.int .i64 x.pa,.int .i64 x.lv,.int .i64 x.st,.int .i64 x.ti],fv,fv2] W fun e w' => e = .returned (.bool (pr x)) ∧ Below W.heap.size W w') :
    Calls Tryz.prog 58 #[.slice pp l.length cc,.func (.func M) #[] #[fv,fv2]] w fun e w' => ∃ pp' cc',e = .returned (.slice pp' (l.filter fun x => !pr x).length cc') ∧ OwnR encHd 7 base 28 w' pp' cc' (l.filter fun x => !pr x) ∧ Below base w w':=by
  have hix:=hnd2_index M fv fv2 l pr pp cc base w (hO.row encHd_len) hbase hn hF hcm
  have hcc:=Lib.hid hcm;clear hcm
  have HO:=Lib.hid hO;clear hO
  have HB:=Lib.hid (Below.refl w.heap.size w)
  rcases first_ix pr l with hall | ⟨i,hil,hpi,hbef⟩
  · rw [ixOf_no hall] at hix
    have HE:=Lib.hid (kep_none hall)
    clear hall
    have HIX:=Lib.hid hix;clear hix
    go_enter Tryz.func58,Tryz.ntmps58
    go_wp2_with (first | (with_reducible refine ((HIX.out).mono ?_);rintro e w' ⟨rfl,hb⟩;replace HB:=Lib.hid (bch' HB.out hb);replace HO:=Lib.hid (HO.out.keep hb);clear hb))
    go_ret
    exact ⟨pp,cc,by rw [HE.out];rfl,by rw [HE.out];exact HO.out,HB.out.mono hbase⟩
  · rw [ixOf_at hil hpi hbef] at hix
    have hne:(((i:Nat):Int) == -1) = false:=by rw [beq_eq_false_iff_ne];omega
    have HPI:=Lib.hid hpi
    have HKF:=Lib.hid (kep_first hil hpi hbef)
    clear hpi hbef
    obtain ⟨g,cur0,rfl,hgb,-⟩:=HO.out.to_blk (fun h => by subst h;exact absurd hil (Nat.not_lt_zero _))
    have HGB:=Lib.hid hgb;clear hgb
    have HIX:=Lib.hid hix;clear hix
    have hun0:IntKind.i64.wrap ((i:Int) + 1) = (i:Int) + 1:=IntWalk.i64_in _ (by omega)
    go_enter Tryz.func58,Tryz.ntmps58
    go_wp2_with (first | (with_reducible refine ((HIX.out).mono ?_);rintro e w' ⟨rfl,hb⟩;replace HB:=Lib.hid (bch' HB.out hb);replace HO:=Lib.hid (HO.out.keep hb);clear hb))
    go_loopw [5,6] (fun s5 s6 wr => ∃ j r:Nat,s5 = .int .i64 ((kepL pr l j).length:Int) ∧ s6 = .int .i64 (j:Int) ∧ Hid (j + r = l.length) ∧ Hid (i < j) ∧ Hid (Below base w wr) ∧ Hid (OwnR encHd 7 base 28 wr (some ⟨g,0,none⟩) cc ((kepL pr l j) ++ l.drop (kepL pr l j).length))) (fun _ s6 _ => l.length - (intOf s6).toNat)
    case atStart => exact ⟨i + 1,l.length - (i + 1),by rw [HKF.out,List.length_take,Nat.min_eq_left (by omega)],by first | rfl | simp,Lib.hid (by omega),Lib.hid (by omega),Lib.hid (HB.out.mono hbase),Lib.hid (by rw [HKF.out,List.length_take,Nat.min_eq_left (by omega),List.take_append_drop];exact HO.out)⟩
    case round =>
      clear HB HO
      obtain ⟨j,r,rfl,rfl,hkr,hij,HB,HO⟩:=hrel
      cases r with
      | zero =>
        obtain rfl:j = l.length:=by have:=hkr.out;omega
        have hlt:¬ (l.length:Int) < (l.length:Int):=by omega
        have hm1:=kep_lt hil HPI.out _ hij.out (Nat.le_refl _)
        have HE:Hid ((kepL pr l l.length) = l.filter fun x => !pr x):=Lib.hid (kep_end pr l)
        obtain ⟨g2,cur,hp,hg2,hbk,hc1,hc2,hc3,hc4⟩:=HO.out.to_blk (fun e => by have h:=congrArg List.length e;rw [kept_len (by omega)] at h;have h2:l.length = 0:=h;omega)
        obtain rfl:g = g2:=by have:=Option.some.inj hp;injection this
        rw [kept_len (by omega)] at hc1
        have hKR:(l.drop (kepL pr l l.length).length).length = l.length - (kepL pr l l.length).length:=List.length_drop
        obtain ⟨w4,cs,hclr,hcl,hbk2,hbl2⟩:=clearK (P:=Tryz.prog) wr 30 28 (.agg #[.int .i64 0,.int .i64 0,.string ⟨#[]⟩,.int .i64 0,.int .i64 0,.int .i64 0,.int .i64 0]) 7 g ((kepL pr l l.length).length * 7) (l.length - (kepL pr l l.length).length) (cc - (kepL pr l l.length).length) cur Tryz.underlying30 (fun _ => by kernel_rfl) rfl (by decide) hbk (by omega) (by rw [hc3,← Nat.add_mul];exact Nat.mul_le_mul_right _ (by omega))
        have HFI:Hid (OwnR encHd 7 base 28 w4 (some ⟨g,0,none⟩) cc (kepL pr l l.length)):=Lib.hid (OwnR.cut (R:=l.drop (kepL pr l l.length).length) encHd_len hg2 (by rw [kept_len (by omega)];exact hc1) hc2 hc3 (by have h:=hc4;rw [kept_len (by omega)] at h ⊢;exact h) (by rw [hKR];exact hcl) hbk2)
        have HCL:=Lib.hid hclr;have HB4:Hid (Below base w w4):=Lib.hid (HB.out.trans (hbl2 base hg2))
        have hcap:¬ cc = (kepL pr l l.length).length:=by omega
        have hcc1:((kepL pr l l.length).length:Int) ≤ (cc:Int):=by omega
        have hm0:(0:Int) ≤ ((kepL pr l l.length).length:Int):=by omega
        have hml:((kepL pr l l.length).length:Int) ≤ (l.length:Int):=by omega
        have hcb:(cc:Int) ≤ 9223372036854775807:=by unfold maxLen at hc2;omega
        have hlc:(l.length:Int) ≤ (cc:Int):=by omega
        clear hclr hcl hbk2 hbl2 hbk hc1 hc2 hc3 hc4 hKR hm1 hp hg2
        generalize hK:(kepL pr l l.length) = K at *
        clear hK
        go_wp2_with (first | (with_reducible refine wpList_clear_run _ rfl (.tmp 38) 30 rfl _ rfl (HCL.out _) ?_))
        go_ret
        rw [← HE.out]
        exact ⟨_,_,rfl,HFI.out,HB4.out⟩
      | succ r =>
        have hjl:j < l.length:=by have:=hkr.out;omega
        have hlt:(j:Int) < (l.length:Int):=by omega
        have hj0:(0:Int) ≤ (j:Int):=by omega
        have hun:IntKind.i64.wrap ((j:Int) + 1) = (j:Int) + 1:=IntWalk.i64_in _ (by omega)
        have hm1:=kep_lt hil HPI.out _ hij.out (Nat.le_of_lt hjl)
        have hm2:(kepL pr l j).length < l.length:=by omega
        obtain ⟨x,hx⟩:∃ x,x = l[j]'hjl:=⟨_,rfl⟩
        have hxc:=HO.out.cellsAt encHd_len (i:=j) (x:=x) (by rw [kept_get (by omega),List.getElem?_eq_getElem hjl,hx])
        have x0:wr.cell? ⟨g,j * 7,none⟩ = some (.int .i64 x.ch):=hxc 0 _ rfl
        have x1:wr.cell? ⟨g,j * 7 + 1,none⟩ = some (.int .i64 x.at_):=hxc 1 _ rfl
        have x2:wr.cell? ⟨g,j * 7 + 2,none⟩ = some (.string ⟨(x.fr).toArray⟩):=hxc 2 _ rfl
        have x3:wr.cell? ⟨g,j * 7 + 3,none⟩ = some (.int .i64 x.pa):=hxc 3 _ rfl
        have x4:wr.cell? ⟨g,j * 7 + 4,none⟩ = some (.int .i64 x.lv):=hxc 4 _ rfl
        have x5:wr.cell? ⟨g,j * 7 + 5,none⟩ = some (.int .i64 x.st):=hxc 5 _ rfl
        have x6:wr.cell? ⟨g,j * 7 + 6,none⟩ = some (.int .i64 x.ti):=hxc 6 _ rfl
        have hgl:g < wr.heap.size:=by have:=(HO.out.lt _ rfl).2;exact this
        have hcm:=hcc.out x (by rw [hx];exact List.getElem_mem hjl)
        have hlo:j * 7 < 9223372036854775807:=by omega
        have HXE:=Lib.hid hx
        have HCM0:=Lib.hid hcm
        clear hxc hx hcm
        have hal:=(Below.refl wr.heap.size wr).alloc (Nat.le_refl _) (.cells #[.int .i64 x.ch,.int .i64 x.at_,.string ⟨(x.fr).toArray⟩,.int .i64 x.pa,.int .i64 x.lv,.int .i64 x.st,.int .i64 x.ti] 28)
        have HBW:=Lib.hid ((HB.out.trans (hal.mono (Nat.le_trans hbase HB.out.size))))
        replace HO:=Lib.hid (HO.out.keep hal)
        have HV:=Lib.hid (Blk.new wr 28 #[.int .i64 x.ch,.int .i64 x.at_,.string ⟨(x.fr).toArray⟩,.int .i64 x.pa,.int .i64 x.lv,.int .i64 x.st,.int .i64 x.ti])
        clear hal
        go_upto_region 8 with fail
        clear HB x0 x1 x2 x3 x4 x5 x6 hgl
        generalize wr.alloc (.cells #[.int .i64 x.ch,.int .i64 x.at_,.string ⟨(x.fr).toArray⟩,.int .i64 x.pa,.int .i64 x.lv,.int .i64 x.st,.int .i64 x.ti] 28) = wg at *
        have HB:=HBW;clear HBW
        generalize wr.heap.size = gv at *
        obtain ⟨v0,v1,v2,v3,v4,v5,v6,vf0,vf1,vf2,vf3,vf4,vf5,vf6⟩:=HV.out.c7
        have HBB:=HB
        cases hpx:pr x
        · have hK:(kepL pr l (j + 1)) = (kepL pr l j) ++ [x]:=by rw [HXE.out];exact kep_no hjl (by rw [← HXE.out];exact hpx)
          have HK:=Lib.hid hK;clear hK
          have hcm:=HCM0.out
          rw [hpx] at hcm
          clear hpx
          have HCM:=Lib.hid hcm;clear hcm
          generalize hq:(kepL pr l j) = K at *
          clear hq
          go_upto_region 9 with (first | (with_reducible refine ((HCM.out _ HBB.out).mono ?_);rintro e w' ⟨rfl,hb⟩;replace HV:=Lib.hid (HV.out.keep hb);clear v0 v1 v2 v3 v4 v5 v6 vf0 vf1 vf2 vf3 vf4 vf5 vf6;replace HO:=Lib.hid (HO.out.keep hb);replace HB:=Lib.hid (HB.out.trans (hb.mono (Nat.le_trans hbase HB.out.size)));clear hb;obtain ⟨v0,v1,v2,v3,v4,v5,v6,vf0,vf1,vf2,vf3,vf4,vf5,vf6⟩:=HV.out.c7))
          obtain ⟨y,hy⟩:∃ y,l[K.length]? = some y:=⟨_,List.getElem?_eq_getElem hm2⟩
          have hyc:=HO.out.cellsAt encHd_len (i:=K.length) (x:=y) (by rw [kept_get (Nat.le_refl _)];exact hy)
          have y0:w'.cell? ⟨g,K.length * 7,none⟩ = some (.int .i64 y.ch):=hyc 0 _ rfl
          have y1:w'.cell? ⟨g,K.length * 7 + 1,none⟩ = some (.int .i64 y.at_):=hyc 1 _ rfl
          have y2:w'.cell? ⟨g,K.length * 7 + 2,none⟩ = some (.string ⟨(y.fr).toArray⟩):=hyc 2 _ rfl
          have y3:w'.cell? ⟨g,K.length * 7 + 3,none⟩ = some (.int .i64 y.pa):=hyc 3 _ rfl
          have y4:w'.cell? ⟨g,K.length * 7 + 4,none⟩ = some (.int .i64 y.lv):=hyc 4 _ rfl
          have y5:w'.cell? ⟨g,K.length * 7 + 5,none⟩ = some (.int .i64 y.st):=hyc 5 _ rfl
          have y6:w'.cell? ⟨g,K.length * 7 + 6,none⟩ = some (.int .i64 y.ti):=hyc 6 _ rfl
          have hfr:=HO.out.frozenAt (fun e => by have h:=congrArg List.length e;rw [kept_len (by omega)] at h;have h2:l.length = 0:=h;omega)
          have z0:=hfr (K.length * 7)
          have z1:=hfr (K.length * 7 + 1)
          have z2:=hfr (K.length * 7 + 2)
          have z3:=hfr (K.length * 7 + 3)
          have z4:=hfr (K.length * 7 + 4)
          have z5:=hfr (K.length * 7 + 5)
          have z6:=hfr (K.length * 7 + 6)
          have hgl:g < w'.heap.size:=(HO.out.lt _ rfl).2
          have hm0:(0:Int) ≤ (K.length:Int):=by omega
          have hml:(K.length:Int) < (l.length:Int):=by omega
          have hmk:K.length * 7 < 9223372036854775807:=by omega
          clear hyc hfr hy
          have HO2:Hid (OwnR encHd 7 base 28 (((((((w'.setCell ⟨g,K.length * 7,none⟩ (.int .i64 x.ch)).setCell ⟨g,K.length * 7 + 1,none⟩ (.int .i64 x.at_)).setCell ⟨g,K.length * 7 + 2,none⟩ (.string ⟨(x.fr).toArray⟩)).setCell ⟨g,K.length * 7 + 3,none⟩ (.int .i64 x.pa)).setCell ⟨g,K.length * 7 + 4,none⟩ (.int .i64 x.lv)).setCell ⟨g,K.length * 7 + 5,none⟩ (.int .i64 x.st)).setCell ⟨g,K.length * 7 + 6,none⟩ (.int .i64 x.ti)) (some ⟨g,0,none⟩) cc ((K ++ [x]) ++ l.drop (K ++ [x]).length)):=Lib.hid (by have h:=HO.out.setk encHd_len (i:=K.length) (by rw [kept_len (by omega)];omega) x;rw [kept_set K l x hm2] at h;rw [List.length_append];exact h)
          have HB2:Hid (Below base w (((((((w'.setCell ⟨g,K.length * 7,none⟩ (.int .i64 x.ch)).setCell ⟨g,K.length * 7 + 1,none⟩ (.int .i64 x.at_)).setCell ⟨g,K.length * 7 + 2,none⟩ (.string ⟨(x.fr).toArray⟩)).setCell ⟨g,K.length * 7 + 3,none⟩ (.int .i64 x.pa)).setCell ⟨g,K.length * 7 + 4,none⟩ (.int .i64 x.lv)).setCell ⟨g,K.length * 7 + 5,none⟩ (.int .i64 x.st)).setCell ⟨g,K.length * 7 + 6,none⟩ (.int .i64 x.ti))):=Lib.hid ((((((((HB.out.setCell HGB.out _).setCell HGB.out _).setCell HGB.out _).setCell HGB.out _).setCell HGB.out _).setCell HGB.out _).setCell HGB.out _))
          go_upto_region 10 with fail
          clear HO HB y0 y1 y2 y3 y4 y5 y6 z0 z1 z2 z3 z4 z5 z6 hgl
          clear v0 v1 v2 v3 v4 v5 v6 vf0 vf1 vf2 vf3 vf4 vf5 vf6
          clear HV
          generalize ((((((w'.setCell ⟨g,K.length * 7,none⟩ (.int .i64 x.ch)).setCell ⟨g,K.length * 7 + 1,none⟩ (.int .i64 x.at_)).setCell ⟨g,K.length * 7 + 2,none⟩ (.string ⟨(x.fr).toArray⟩)).setCell ⟨g,K.length * 7 + 3,none⟩ (.int .i64 x.pa)).setCell ⟨g,K.length * 7 + 4,none⟩ (.int .i64 x.lv)).setCell ⟨g,K.length * 7 + 5,none⟩ (.int .i64 x.st)).setCell ⟨g,K.length * 7 + 6,none⟩ (.int .i64 x.ti) = w5 at *
          have hun2:IntKind.i64.wrap ((K.length:Int) + 1) = (K.length:Int) + 1:=IntWalk.i64_in _ (by omega)
          go_wp2_with fail
          go_roundw
          case rel => exact ⟨j + 1,r,by rw [HK.out,List.length_append];simp,by first | rfl | simp,Lib.hid (by have:=hkr.out;omega),Lib.hid (by have:=hij.out;omega),HB2,Lib.hid (by rw [HK.out];exact HO2.out)⟩
          case measure => first | (simp [intOf];done) | (simp [intOf];omega)
        · have hK:(kepL pr l (j + 1)) = (kepL pr l j):=kep_yes hjl (by rw [← HXE.out];exact hpx)
          have HK:=Lib.hid hK;clear hK
          have hcm:=HCM0.out
          rw [hpx] at hcm
          clear hpx hm1 hm2
          have HCM:=Lib.hid hcm;clear hcm
          generalize hq:(kepL pr l j) = K at *
          clear hq
          go_wp2_with (first | (with_reducible refine ((HCM.out _ HBB.out).mono ?_);rintro e w' ⟨rfl,hb⟩;replace HV:=Lib.hid (HV.out.keep hb);clear v0 v1 v2 v3 v4 v5 v6 vf0 vf1 vf2 vf3 vf4 vf5 vf6;replace HO:=Lib.hid (HO.out.keep hb);replace HB:=Lib.hid (HB.out.trans (hb.mono (Nat.le_trans hbase HB.out.size)));clear hb;obtain ⟨v0,v1,v2,v3,v4,v5,v6,vf0,vf1,vf2,vf3,vf4,vf5,vf6⟩:=HV.out.c7))
          go_roundw
          case rel => exact ⟨j + 1,r,by rw [HK.out],by first | rfl | simp,Lib.hid (by have:=hkr.out;omega),Lib.hid (by have:=hij.out;omega),HB,Lib.hid (by rw [HK.out];exact HO.out)⟩
          case measure => first | (simp [intOf];done) | (simp [intOf];omega)
theorem info_hd:(Tryz.prog.info? 28).map (fun i => (i.zero,i.size,i.bytes)) = some (some (.agg #[.int .i64 0,.int .i64 0,.string ⟨#[]⟩,.int .i64 0,.int .i64 0,.int .i64 0,.int .i64 0]),7,64):=by kernel_rfl
theorem own_hclone (w : World) (l : List Hnd) (p : Option Addr) (c : Nat) (hv1 : RowX encHd 7 w p l) (hn : l.length ≤ 1000000) :
    Calls Tryz.prog 59 #[.slice p l.length c] w fun e w' => ∃ pp cc,e = .returned (.slice pp l.length cc) ∧ OwnR encHd 7 w.heap.size 28 w' pp cc l ∧ Below w.heap.size w w':=by
  have hq:∀ (w:World) (a:Option Addr) (n c n2 c2:Nat),(binOp .eql 30 (.slice a n c) (.slice none n2 c2)).run Tryz.prog w = .ok (.bool a.isNone) w:=fun w a n c n2 c2 => Lib.run_eql_slice_nil w _ _ a n c n2 c2 Tryz.underlying30
  obtain ⟨i0,hi,hz0,hz1,hz2⟩:=info_parts info_hd
  have HN:=Lib.hid hn;clear hn
  cases p with
  | none =>
    have h0:l = []:=by
      by_cases h:l = []
      · exact h
      · obtain ⟨b,o,e,-⟩:=hv1 h;cases e
    clear hv1
    subst h0
    dsimp only [List.length_nil]
    go_enter Tryz.func59,Tryz.ntmps59
    go_wp2_with fail
    go_ret
    exact ⟨none,0,rfl,OwnR.nil _ _ _,Below.refl _ _⟩
  | some ad =>
    by_cases hl0:l = []
    · subst hl0
      clear hv1
      dsimp only [List.length_nil]
      go_enter Tryz.func59,Tryz.ntmps59
      have HA:Hid (∀ (j:Nat) (u:Value),(([]:List Hnd).flatMap encHd)[j]? = some u → w.cell? (ad.add j) = some u):=Lib.hid (fun j u h => by simp at h)
      go_wp2_with fail
      go_ret
      exact ⟨_,_,rfl,OwnR.made w 28,(Below.refl w.heap.size w).alloc (Nat.le_refl _) _⟩
    obtain ⟨b,off,had,-,hC⟩:=hv1 hl0
    obtain rfl:=Option.some.inj had
    have HA:Hid (∀ (j:Nat) (u:Value),(l.flatMap encHd)[j]? = some u → w.cell? ⟨b,off + j,none⟩ = some u):=Lib.hid (flat_cell encHd_len l (fun j => w.cell? ⟨b,off + j,none⟩) (fun i hi j v hv => by have:=hC i hi j v hv;rwa [Nat.add_assoc] at this))
    clear hv1 hC
    go_enter Tryz.func59,Tryz.ntmps59
    go_wp2_with (first | (at_builtin;refine wpList_appL rfl _ _ 30 rfl w.heap.size 28 i0 (.agg #[.int .i64 0,.int .i64 0,.string ⟨#[]⟩,.int .i64 0,.int .i64 0,.int .i64 0,.int .i64 0]) 64 Tryz.underlying30 hi hz0 hz1 hz2 rfl (by decide) (by decide) (some ⟨w.heap.size,0,none⟩) 0 0 [] rfl _ l b off c encHd_len (fun j u hu => Lib.cell?_alloc_some _ (HA.out j u hu)) (fun y _ => encHd_one y) rfl (OwnR.made w 28) rfl (by have:=HN.out;simp;omega) (by simp) ?_;intro p1 c1 w3 hO3 hb3;have HO3:=Lib.hid hO3;have HB3:=Lib.hid hb3;clear hO3 hb3))
    go_ret
    refine ⟨p1,c1,by simp,by simpa using HO3.out,?_⟩
    exact ((Below.refl w.heap.size w).alloc (Nat.le_refl _) _).trans HB3.out
end Go.Proofs.YtknlohmkachbmaaGreatDoor
set_option maxRecDepth 100000
set_option maxHeartbeats 8000000
namespace Go.Proofs.YtknlohmkachbmaaGreatDoor
open Go.RowKit Go.Shelf Lum
open Go.Lib (decDigits itoa)
attribute [local go_sem] bs_get bs_extract_end bs_extract_from bs_extract bs_append
theorem hnd1_index (M : FuncId) (fv : Value) (l : List Hnd) (pr : Hnd → Bool) (pp : Option Addr) (cc base : Nat) (w : World) (hR : RowX encHd 7 w pp l) (hbase : base ≤ w.heap.size) (hn : l.length ≤ 1000000) (hF : ∀ args w, (callFunc M args).run Tryz.prog w = .ok (.enter M args) w)
    (hcm:∀ x ∈ l,∀ W,Below base w W → Calls Tryz.prog M #[.agg #[.int .i64 x.ch,.int .i64 x.at_,.string ⟨(x.fr).toArray⟩,.int .i64 x.pa,.int .i64 x.lv,.int .i64 x.st,.int .i64 x.ti],fv] W fun e w' => e = .returned (.bool (pr x)) ∧ Below W.heap.size W w') :
    Calls Tryz.prog 108 #[.slice pp l.length cc,.func (.func M) #[] #[fv]] w fun e w' => e = .returned (.int .i64 (ixOf pr l)) ∧ Below w.heap.size w w':=by
  have hv2:=Lib.hid hR;clear hR
  have hcc:=Lib.hid hcm;clear hcm
  have HB:=Lib.hid (Below.refl w.heap.size w)
  go_enter Tryz.func108,Tryz.ntmps108
  go_wp2_with fail
  go_loopw [8] (fun s8 wr => ∃ i r:Nat,s8 = .int .i64 (i:Int) ∧ Hid (i + r = l.length) ∧ Hid (Below w.heap.size w wr) ∧ Hid (∀ j (hj:j < l.length),j < i → pr (l[j]'hj) = false)) (fun s8 _ => l.length - (intOf s8).toNat)
  case atStart => exact ⟨0,l.length,rfl,Lib.hid (by omega),HB,Lib.hid (fun j hj h => absurd h (Nat.not_lt_zero _))⟩
  case round =>
    clear HB
    obtain ⟨i,r,rfl,hkr,HB,HN⟩:=hrel
    cases r with
    | zero =>
      have hlt:¬ (i:Int) < (l.length:Int):=by have:=hkr.out;omega
      have HR:Hid (ixOf pr l = -1):=Lib.hid (ixOf_no fun j hj => HN.out j hj (by have:=hkr.out;omega))
      go_wp2_with fail
      go_ret
      exact ⟨by rw [HR.out];rfl,HB.out⟩
    | succ r =>
      have hkl:i < l.length:=by have:=hkr.out;omega
      have hlt:(i:Int) < (l.length:Int):=by omega
      have hi0:(0:Int) ≤ (i:Int):=by omega
      have hun:IntKind.i64.wrap ((i:Int) + 1) = (i:Int) + 1:=IntWalk.i64_in _ (by omega)
      obtain ⟨b,o,rfl,hb,hC⟩:=hv2.out (fun h => by subst h;exact absurd hkl (Nat.not_lt_zero _))
      obtain ⟨x,hx⟩:∃ x,x = l[i]'hkl:=⟨_,rfl⟩
      have hcell:=hC i hkl
      rw [← hx] at hcell
      have x0:wr.cell? ⟨b,o + i * 7,none⟩ = some (.int .i64 x.ch):=(HB.out.cell (p:=⟨b,o + i * 7 + 0,none⟩) hb).trans (hcell 0 _ rfl)
      have x1:wr.cell? ⟨b,o + i * 7 + 1,none⟩ = some (.int .i64 x.at_):=(HB.out.cell (p:=⟨b,o + i * 7 + 1,none⟩) hb).trans (hcell 1 _ rfl)
      have x2:wr.cell? ⟨b,o + i * 7 + 2,none⟩ = some (.string ⟨(x.fr).toArray⟩):=(HB.out.cell (p:=⟨b,o + i * 7 + 2,none⟩) hb).trans (hcell 2 _ rfl)
      have x3:wr.cell? ⟨b,o + i * 7 + 3,none⟩ = some (.int .i64 x.pa):=(HB.out.cell (p:=⟨b,o + i * 7 + 3,none⟩) hb).trans (hcell 3 _ rfl)
      have x4:wr.cell? ⟨b,o + i * 7 + 4,none⟩ = some (.int .i64 x.lv):=(HB.out.cell (p:=⟨b,o + i * 7 + 4,none⟩) hb).trans (hcell 4 _ rfl)
      have x5:wr.cell? ⟨b,o + i * 7 + 5,none⟩ = some (.int .i64 x.st):=(HB.out.cell (p:=⟨b,o + i * 7 + 5,none⟩) hb).trans (hcell 5 _ rfl)
      have x6:wr.cell? ⟨b,o + i * 7 + 6,none⟩ = some (.int .i64 x.ti):=(HB.out.cell (p:=⟨b,o + i * 7 + 6,none⟩) hb).trans (hcell 6 _ rfl)
      have hcm:=hcc.out x (by rw [hx];exact List.getElem_mem hkl)
      have HBB:=Lib.hid (HB.out.mono hbase)
      have hbr:b < wr.heap.size:=by have:=HB.out.size;omega
      have hlo:i * 7 < 9223372036854775807:=by omega
      have HXE:=Lib.hid hx
      have HCM0:=Lib.hid hcm
      clear hC hcell hb hx hcm
      cases hpx:pr x
      · have HN2:Hid (∀ j (hj:j < l.length),j < i + 1 → pr (l[j]'hj) = false):=Lib.hid (fun j hj h => by by_cases e:j = i;(subst e;rw [← HXE.out];exact hpx);exact HN.out j hj (by omega))
        have hcm:=HCM0.out
        rw [hpx] at hcm
        clear hpx
        have HCM:=Lib.hid hcm;clear hcm
        go_wp2_with (first | (with_reducible refine ((HCM.out _ HBB.out).mono ?_);rintro e w' ⟨rfl,hb⟩;replace HB:=Lib.hid (bch' HB.out hb);clear hb))
        go_roundw
        case rel => exact ⟨i + 1,r,by first | rfl | simp,Lib.hid (by have:=hkr.out;omega),HB,HN2⟩
        case measure => first | (simp [intOf];done) | (simp [intOf];omega)
      · have HR:Hid (ixOf pr l = (i:Int)):=Lib.hid (ixOf_at hkl (by rw [← HXE.out];exact hpx) (fun j hj => HN.out j (by omega) hj))
        have hcm:=HCM0.out
        rw [hpx] at hcm
        clear hpx
        have HCM:=Lib.hid hcm;clear hcm
        go_wp2_with (first | (with_reducible refine ((HCM.out _ HBB.out).mono ?_);rintro e w' ⟨rfl,hb⟩;replace HB:=Lib.hid (bch' HB.out hb);clear hb))
        go_ret
        exact ⟨by rw [HR.out];rfl,HB.out⟩
theorem hnd1_delete (M : FuncId) (fv : Value) (l : List Hnd) (pr : Hnd → Bool) (pp : Option Addr) (cc base : Nat) (w : World) (hO : OwnR encHd 7 base 28 w pp cc l) (hbase : base ≤ w.heap.size) (hn : l.length ≤ 1000000) (hF : ∀ args w, (callFunc M args).run Tryz.prog w = .ok (.enter M args) w)
    (hcm:∀ x ∈ l,∀ W,Below base w W → Calls Tryz.prog M #[.agg #[.int .i64 x.ch,.int .i64 x.at_,.string ⟨(x.fr).toArray⟩,.int .i64 x.pa,.int .i64 x.lv,.int .i64 x.st,.int .i64 x.ti],fv] W fun e w' => e = .returned (.bool (pr x)) ∧ Below W.heap.size W w') :
    Calls Tryz.prog 58 #[.slice pp l.length cc,.func (.func M) #[] #[fv]] w fun e w' => ∃ pp' cc',e = .returned (.slice pp' (l.filter fun x => !pr x).length cc') ∧ OwnR encHd 7 base 28 w' pp' cc' (l.filter fun x => !pr x) ∧ Below base w w':=by
  have hix:=hnd1_index M fv l pr pp cc base w (hO.row encHd_len) hbase hn hF hcm
  have hcc:=Lib.hid hcm;clear hcm
  have HO:=Lib.hid hO;clear hO
  have HB:=Lib.hid (Below.refl w.heap.size w)
  rcases first_ix pr l with hall | ⟨i,hil,hpi,hbef⟩
  · rw [ixOf_no hall] at hix
    have HE:=Lib.hid (kep_none hall)
    clear hall
    have HIX:=Lib.hid hix;clear hix
    go_enter Tryz.func58,Tryz.ntmps58
    go_wp2_with (first | (with_reducible refine ((HIX.out).mono ?_);rintro e w' ⟨rfl,hb⟩;replace HB:=Lib.hid (bch' HB.out hb);replace HO:=Lib.hid (HO.out.keep hb);clear hb))
    go_ret
    exact ⟨pp,cc,by rw [HE.out];rfl,by rw [HE.out];exact HO.out,HB.out.mono hbase⟩
  · rw [ixOf_at hil hpi hbef] at hix
    have hne:(((i:Nat):Int) == -1) = false:=by rw [beq_eq_false_iff_ne];omega
    have HPI:=Lib.hid hpi
    have HKF:=Lib.hid (kep_first hil hpi hbef)
    clear hpi hbef
    obtain ⟨g,cur0,rfl,hgb,-⟩:=HO.out.to_blk (fun h => by subst h;exact absurd hil (Nat.not_lt_zero _))
    have HGB:=Lib.hid hgb;clear hgb
    have HIX:=Lib.hid hix;clear hix
    have hun0:IntKind.i64.wrap ((i:Int) + 1) = (i:Int) + 1:=IntWalk.i64_in _ (by omega)
    go_enter Tryz.func58,Tryz.ntmps58
    go_wp2_with (first | (with_reducible refine ((HIX.out).mono ?_);rintro e w' ⟨rfl,hb⟩;replace HB:=Lib.hid (bch' HB.out hb);replace HO:=Lib.hid (HO.out.keep hb);clear hb))
    go_loopw [5,6] (fun s5 s6 wr => ∃ j r:Nat,s5 = .int .i64 ((kepL pr l j).length:Int) ∧ s6 = .int .i64 (j:Int) ∧ Hid (j + r = l.length) ∧ Hid (i < j) ∧ Hid (Below base w wr) ∧ Hid (OwnR encHd 7 base 28 wr (some ⟨g,0,none⟩) cc ((kepL pr l j) ++ l.drop (kepL pr l j).length))) (fun _ s6 _ => l.length - (intOf s6).toNat)
    case atStart => exact ⟨i + 1,l.length - (i + 1),by rw [HKF.out,List.length_take,Nat.min_eq_left (by omega)],by first | rfl | simp,Lib.hid (by omega),Lib.hid (by omega),Lib.hid (HB.out.mono hbase),Lib.hid (by rw [HKF.out,List.length_take,Nat.min_eq_left (by omega),List.take_append_drop];exact HO.out)⟩
    case round =>
      clear HB HO
      obtain ⟨j,r,rfl,rfl,hkr,hij,HB,HO⟩:=hrel
      cases r with
      | zero =>
        obtain rfl:j = l.length:=by have:=hkr.out;omega
        have hlt:¬ (l.length:Int) < (l.length:Int):=by omega
        have hm1:=kep_lt hil HPI.out _ hij.out (Nat.le_refl _)
        have HE:Hid ((kepL pr l l.length) = l.filter fun x => !pr x):=Lib.hid (kep_end pr l)
        obtain ⟨g2,cur,hp,hg2,hbk,hc1,hc2,hc3,hc4⟩:=HO.out.to_blk (fun e => by have h:=congrArg List.length e;rw [kept_len (by omega)] at h;have h2:l.length = 0:=h;omega)
        obtain rfl:g = g2:=by have:=Option.some.inj hp;injection this
        rw [kept_len (by omega)] at hc1
        have hKR:(l.drop (kepL pr l l.length).length).length = l.length - (kepL pr l l.length).length:=List.length_drop
        obtain ⟨w4,cs,hclr,hcl,hbk2,hbl2⟩:=clearK (P:=Tryz.prog) wr 30 28 (.agg #[.int .i64 0,.int .i64 0,.string ⟨#[]⟩,.int .i64 0,.int .i64 0,.int .i64 0,.int .i64 0]) 7 g ((kepL pr l l.length).length * 7) (l.length - (kepL pr l l.length).length) (cc - (kepL pr l l.length).length) cur Tryz.underlying30 (fun _ => by kernel_rfl) rfl (by decide) hbk (by omega) (by rw [hc3,← Nat.add_mul];exact Nat.mul_le_mul_right _ (by omega))
        have HFI:Hid (OwnR encHd 7 base 28 w4 (some ⟨g,0,none⟩) cc (kepL pr l l.length)):=Lib.hid (OwnR.cut (R:=l.drop (kepL pr l l.length).length) encHd_len hg2 (by rw [kept_len (by omega)];exact hc1) hc2 hc3 (by have h:=hc4;rw [kept_len (by omega)] at h ⊢;exact h) (by rw [hKR];exact hcl) hbk2)
        have HCL:=Lib.hid hclr;have HB4:Hid (Below base w w4):=Lib.hid (HB.out.trans (hbl2 base hg2))
        have hcap:¬ cc = (kepL pr l l.length).length:=by omega
        have hcc1:((kepL pr l l.length).length:Int) ≤ (cc:Int):=by omega
        have hm0:(0:Int) ≤ ((kepL pr l l.length).length:Int):=by omega
        have hml:((kepL pr l l.length).length:Int) ≤ (l.length:Int):=by omega
        have hcb:(cc:Int) ≤ 9223372036854775807:=by unfold maxLen at hc2;omega
        have hlc:(l.length:Int) ≤ (cc:Int):=by omega
        clear hclr hcl hbk2 hbl2 hbk hc1 hc2 hc3 hc4 hKR hm1 hp hg2
        generalize hK:(kepL pr l l.length) = K at *
        clear hK
        go_wp2_with (first | (with_reducible refine wpList_clear_run _ rfl (.tmp 38) 30 rfl _ rfl (HCL.out _) ?_))
        go_ret
        rw [← HE.out]
        exact ⟨_,_,rfl,HFI.out,HB4.out⟩
      | succ r =>
        have hjl:j < l.length:=by have:=hkr.out;omega
        have hlt:(j:Int) < (l.length:Int):=by omega
        have hj0:(0:Int) ≤ (j:Int):=by omega
        have hun:IntKind.i64.wrap ((j:Int) + 1) = (j:Int) + 1:=IntWalk.i64_in _ (by omega)
        have hm1:=kep_lt hil HPI.out _ hij.out (Nat.le_of_lt hjl)
        have hm2:(kepL pr l j).length < l.length:=by omega
        obtain ⟨x,hx⟩:∃ x,x = l[j]'hjl:=⟨_,rfl⟩
        have hxc:=HO.out.cellsAt encHd_len (i:=j) (x:=x) (by rw [kept_get (by omega),List.getElem?_eq_getElem hjl,hx])
        have x0:wr.cell? ⟨g,j * 7,none⟩ = some (.int .i64 x.ch):=hxc 0 _ rfl
        have x1:wr.cell? ⟨g,j * 7 + 1,none⟩ = some (.int .i64 x.at_):=hxc 1 _ rfl
        have x2:wr.cell? ⟨g,j * 7 + 2,none⟩ = some (.string ⟨(x.fr).toArray⟩):=hxc 2 _ rfl
        have x3:wr.cell? ⟨g,j * 7 + 3,none⟩ = some (.int .i64 x.pa):=hxc 3 _ rfl
        have x4:wr.cell? ⟨g,j * 7 + 4,none⟩ = some (.int .i64 x.lv):=hxc 4 _ rfl
        have x5:wr.cell? ⟨g,j * 7 + 5,none⟩ = some (.int .i64 x.st):=hxc 5 _ rfl
        have x6:wr.cell? ⟨g,j * 7 + 6,none⟩ = some (.int .i64 x.ti):=hxc 6 _ rfl
        have hgl:g < wr.heap.size:=by have:=(HO.out.lt _ rfl).2;exact this
        have hcm:=hcc.out x (by rw [hx];exact List.getElem_mem hjl)
        have hlo:j * 7 < 9223372036854775807:=by omega
        have HXE:=Lib.hid hx
        have HCM0:=Lib.hid hcm
        clear hxc hx hcm
        have hal:=(Below.refl wr.heap.size wr).alloc (Nat.le_refl _) (.cells #[.int .i64 x.ch,.int .i64 x.at_,.string ⟨(x.fr).toArray⟩,.int .i64 x.pa,.int .i64 x.lv,.int .i64 x.st,.int .i64 x.ti] 28)
        have HBW:=Lib.hid ((HB.out.trans (hal.mono (Nat.le_trans hbase HB.out.size))))
        replace HO:=Lib.hid (HO.out.keep hal)
        have HV:=Lib.hid (Blk.new wr 28 #[.int .i64 x.ch,.int .i64 x.at_,.string ⟨(x.fr).toArray⟩,.int .i64 x.pa,.int .i64 x.lv,.int .i64 x.st,.int .i64 x.ti])
        clear hal
        go_upto_region 8 with fail
        clear HB x0 x1 x2 x3 x4 x5 x6 hgl
        generalize wr.alloc (.cells #[.int .i64 x.ch,.int .i64 x.at_,.string ⟨(x.fr).toArray⟩,.int .i64 x.pa,.int .i64 x.lv,.int .i64 x.st,.int .i64 x.ti] 28) = wg at *
        have HB:=HBW;clear HBW
        generalize wr.heap.size = gv at *
        obtain ⟨v0,v1,v2,v3,v4,v5,v6,vf0,vf1,vf2,vf3,vf4,vf5,vf6⟩:=HV.out.c7
        have HBB:=HB
        cases hpx:pr x
        · have hK:(kepL pr l (j + 1)) = (kepL pr l j) ++ [x]:=by rw [HXE.out];exact kep_no hjl (by rw [← HXE.out];exact hpx)
          have HK:=Lib.hid hK;clear hK
          have hcm:=HCM0.out
          rw [hpx] at hcm
          clear hpx
          have HCM:=Lib.hid hcm;clear hcm
          generalize hq:(kepL pr l j) = K at *
          clear hq
          go_upto_region 9 with (first | (with_reducible refine ((HCM.out _ HBB.out).mono ?_);rintro e w' ⟨rfl,hb⟩;replace HV:=Lib.hid (HV.out.keep hb);clear v0 v1 v2 v3 v4 v5 v6 vf0 vf1 vf2 vf3 vf4 vf5 vf6;replace HO:=Lib.hid (HO.out.keep hb);replace HB:=Lib.hid (HB.out.trans (hb.mono (Nat.le_trans hbase HB.out.size)));clear hb;obtain ⟨v0,v1,v2,v3,v4,v5,v6,vf0,vf1,vf2,vf3,vf4,vf5,vf6⟩:=HV.out.c7))
          obtain ⟨y,hy⟩:∃ y,l[K.length]? = some y:=⟨_,List.getElem?_eq_getElem hm2⟩
          have hyc:=HO.out.cellsAt encHd_len (i:=K.length) (x:=y) (by rw [kept_get (Nat.le_refl _)];exact hy)
          have y0:w'.cell? ⟨g,K.length * 7,none⟩ = some (.int .i64 y.ch):=hyc 0 _ rfl
          have y1:w'.cell? ⟨g,K.length * 7 + 1,none⟩ = some (.int .i64 y.at_):=hyc 1 _ rfl
          have y2:w'.cell? ⟨g,K.length * 7 + 2,none⟩ = some (.string ⟨(y.fr).toArray⟩):=hyc 2 _ rfl
          have y3:w'.cell? ⟨g,K.length * 7 + 3,none⟩ = some (.int .i64 y.pa):=hyc 3 _ rfl
          have y4:w'.cell? ⟨g,K.length * 7 + 4,none⟩ = some (.int .i64 y.lv):=hyc 4 _ rfl
          have y5:w'.cell? ⟨g,K.length * 7 + 5,none⟩ = some (.int .i64 y.st):=hyc 5 _ rfl
          have y6:w'.cell? ⟨g,K.length * 7 + 6,none⟩ = some (.int .i64 y.ti):=hyc 6 _ rfl
          have hfr:=HO.out.frozenAt (fun e => by have h:=congrArg List.length e;rw [kept_len (by omega)] at h;have h2:l.length = 0:=h;omega)
          have z0:=hfr (K.length * 7)
          have z1:=hfr (K.length * 7 + 1)
          have z2:=hfr (K.length * 7 + 2)
          have z3:=hfr (K.length * 7 + 3)
          have z4:=hfr (K.length * 7 + 4)
          have z5:=hfr (K.length * 7 + 5)
          have z6:=hfr (K.length * 7 + 6)
          have hgl:g < w'.heap.size:=(HO.out.lt _ rfl).2
          have hm0:(0:Int) ≤ (K.length:Int):=by omega
          have hml:(K.length:Int) < (l.length:Int):=by omega
          have hmk:K.length * 7 < 9223372036854775807:=by omega
          clear hyc hfr hy
          have HO2:Hid (OwnR encHd 7 base 28 (((((((w'.setCell ⟨g,K.length * 7,none⟩ (.int .i64 x.ch)).setCell ⟨g,K.length * 7 + 1,none⟩ (.int .i64 x.at_)).setCell ⟨g,K.length * 7 + 2,none⟩ (.string ⟨(x.fr).toArray⟩)).setCell ⟨g,K.length * 7 + 3,none⟩ (.int .i64 x.pa)).setCell ⟨g,K.length * 7 + 4,none⟩ (.int .i64 x.lv)).setCell ⟨g,K.length * 7 + 5,none⟩ (.int .i64 x.st)).setCell ⟨g,K.length * 7 + 6,none⟩ (.int .i64 x.ti)) (some ⟨g,0,none⟩) cc ((K ++ [x]) ++ l.drop (K ++ [x]).length)):=Lib.hid (by have h:=HO.out.setk encHd_len (i:=K.length) (by rw [kept_len (by omega)];omega) x;rw [kept_set K l x hm2] at h;rw [List.length_append];exact h)
          have HB2:Hid (Below base w (((((((w'.setCell ⟨g,K.length * 7,none⟩ (.int .i64 x.ch)).setCell ⟨g,K.length * 7 + 1,none⟩ (.int .i64 x.at_)).setCell ⟨g,K.length * 7 + 2,none⟩ (.string ⟨(x.fr).toArray⟩)).setCell ⟨g,K.length * 7 + 3,none⟩ (.int .i64 x.pa)).setCell ⟨g,K.length * 7 + 4,none⟩ (.int .i64 x.lv)).setCell ⟨g,K.length * 7 + 5,none⟩ (.int .i64 x.st)).setCell ⟨g,K.length * 7 + 6,none⟩ (.int .i64 x.ti))):=Lib.hid ((((((((HB.out.setCell HGB.out _).setCell HGB.out _).setCell HGB.out _).setCell HGB.out _).setCell HGB.out _).setCell HGB.out _).setCell HGB.out _))
          go_upto_region 10 with fail
          clear HO HB y0 y1 y2 y3 y4 y5 y6 z0 z1 z2 z3 z4 z5 z6 hgl
          clear v0 v1 v2 v3 v4 v5 v6 vf0 vf1 vf2 vf3 vf4 vf5 vf6
          clear HV
          generalize ((((((w'.setCell ⟨g,K.length * 7,none⟩ (.int .i64 x.ch)).setCell ⟨g,K.length * 7 + 1,none⟩ (.int .i64 x.at_)).setCell ⟨g,K.length * 7 + 2,none⟩ (.string ⟨(x.fr).toArray⟩)).setCell ⟨g,K.length * 7 + 3,none⟩ (.int .i64 x.pa)).setCell ⟨g,K.length * 7 + 4,none⟩ (.int .i64 x.lv)).setCell ⟨g,K.length * 7 + 5,none⟩ (.int .i64 x.st)).setCell ⟨g,K.length * 7 + 6,none⟩ (.int .i64 x.ti) = w5 at *
          have hun2:IntKind.i64.wrap ((K.length:Int) + 1) = (K.length:Int) + 1:=IntWalk.i64_in _ (by omega)
          go_wp2_with fail
          go_roundw
          case rel => exact ⟨j + 1,r,by rw [HK.out,List.length_append];simp,by first | rfl | simp,Lib.hid (by have:=hkr.out;omega),Lib.hid (by have:=hij.out;omega),HB2,Lib.hid (by rw [HK.out];exact HO2.out)⟩
          case measure => first | (simp [intOf];done) | (simp [intOf];omega)
        · have hK:(kepL pr l (j + 1)) = (kepL pr l j):=kep_yes hjl (by rw [← HXE.out];exact hpx)
          have HK:=Lib.hid hK;clear hK
          have hcm:=HCM0.out
          rw [hpx] at hcm
          clear hpx hm1 hm2
          have HCM:=Lib.hid hcm;clear hcm
          generalize hq:(kepL pr l j) = K at *
          clear hq
          go_wp2_with (first | (with_reducible refine ((HCM.out _ HBB.out).mono ?_);rintro e w' ⟨rfl,hb⟩;replace HV:=Lib.hid (HV.out.keep hb);clear v0 v1 v2 v3 v4 v5 v6 vf0 vf1 vf2 vf3 vf4 vf5 vf6;replace HO:=Lib.hid (HO.out.keep hb);replace HB:=Lib.hid (HB.out.trans (hb.mono (Nat.le_trans hbase HB.out.size)));clear hb;obtain ⟨v0,v1,v2,v3,v4,v5,v6,vf0,vf1,vf2,vf3,vf4,vf5,vf6⟩:=HV.out.c7))
          go_roundw
          case rel => exact ⟨j + 1,r,by rw [HK.out],by first | rfl | simp,Lib.hid (by have:=hkr.out;omega),Lib.hid (by have:=hij.out;omega),HB,Lib.hid (by rw [HK.out];exact HO.out)⟩
          case measure => first | (simp [intOf];done) | (simp [intOf];omega)
theorem hnd1_contains (M : FuncId) (fv : Value) (l : List Hnd) (pr : Hnd → Bool) (pp : Option Addr) (cc base : Nat) (w : World) (hR : RowX encHd 7 w pp l) (hbase : base ≤ w.heap.size) (hn : l.length ≤ 1000000) (hF : ∀ args w, (callFunc M args).run Tryz.prog w = .ok (.enter M args) w)
    (hcm:∀ x ∈ l,∀ W,Below base w W → Calls Tryz.prog M #[.agg #[.int .i64 x.ch,.int .i64 x.at_,.string ⟨(x.fr).toArray⟩,.int .i64 x.pa,.int .i64 x.lv,.int .i64 x.st,.int .i64 x.ti],fv] W fun e w' => e = .returned (.bool (pr x)) ∧ Below W.heap.size W w') :
    Calls Tryz.prog 87 #[.slice pp l.length cc,.func (.func M) #[] #[fv]] w fun e w' => e = .returned (.bool (l.any pr)) ∧ Below w.heap.size w w':=by
  have h:=hnd1_index M fv l pr pp cc base w hR hbase hn hF hcm
  have hd:decide ((0:Int) ≤ ixOf pr l) = l.any pr:=ixOf_has _ _
  generalize ixOf pr l = m at *
  generalize l.any pr = r at *
  have H:=Lib.hid h;have HD:=Lib.hid hd;clear h hcm hF hR hd
  go_enter Tryz.func87,Tryz.ntmps87
  go_wp2_with ((with_reducible refine ((H.out).mono ?_));rintro e w' ⟨rfl,hb⟩;have HB:=Lib.hid hb;clear hb)
  go_ret
  exact ⟨by rw [← HD.out];rfl,HB.out⟩
theorem cl_done (x : Hnd) (t : Int) (B : Nat) (w : World) (hs : IntKind.i64.wrap (x.st + x.ti) = x.st + x.ti) (hB : B < w.heap.size) (hc : w.cell? ⟨B, 0, none⟩ = some (.int .i64 t)) :
    Calls Tryz.prog 88 #[.agg #[.int .i64 (x.ch),.int .i64 (x.at_),.string ⟨x.fr.toArray⟩,.int .i64 (x.pa),.int .i64 (x.lv),.int .i64 (x.st),.int .i64 (x.ti)],.pointer (some ⟨B,0,none⟩)] w fun e w' => e = .returned (.bool (decide (t < x.st + x.ti))) ∧ Below w.heap.size w w':=by
  have HBL:=Lib.hid hB;have HCC:=Lib.hid hc;clear hB hc
  have HK:=Lib.hid (Blk.new w 28 #[.int .i64 (x.ch),.int .i64 (x.at_),.string ⟨x.fr.toArray⟩,.int .i64 (x.pa),.int .i64 (x.lv),.int .i64 (x.st),.int .i64 (x.ti)])
  have HB:=Lib.hid ((Below.refl w.heap.size w).alloc (Nat.le_refl _) (.cells #[.int .i64 (x.ch),.int .i64 (x.at_),.string ⟨x.fr.toArray⟩,.int .i64 (x.pa),.int .i64 (x.lv),.int .i64 (x.st),.int .i64 (x.ti)] 28))
  obtain ⟨k0,k1,k2,k3,k4,k5,k6,kf0,kf1,kf2,kf3,kf4,kf5,kf6⟩:=HK.out.c7
  have hwr:IntKind.i64.wrap (x.st + x.ti) = x.st + x.ti:=hs
  clear hs
  have hcl:(w.alloc (.cells #[.int .i64 (x.ch),.int .i64 (x.at_),.string ⟨x.fr.toArray⟩,.int .i64 (x.pa),.int .i64 (x.lv),.int .i64 (x.st),.int .i64 (x.ti)] 28)).cell? ⟨B,0,none⟩ = some (.int .i64 t):=(HB.out.cell (p:=⟨B,0,none⟩) HBL.out).trans HCC.out
  go_enter Tryz.func88,Tryz.ntmps88
  go_wp2_with fail
  go_ret
  exact ⟨rfl,HB.out⟩
theorem own_pdone (l : List Hnd) (v : Value) (t : Int) (w : World) (hv : HndsAt w v l) (hx : l.length ≤ 256 → ∀ x ∈ l, x.fr.length ≤ 1000) (env : Env w) :
    Calls Tryz.prog 37 #[v,.int .i64 t] w fun e w' => e = .returned (.tuple #[.bool ((donT l t).1),.int .i64 ((donT l t).2)]) ∧ Below w.heap.size w w':=by
  have hck:=fun W (e:Env W) (h:HndsAt W v l) => own_pcheck l v W h hx e
  change ∀ W,Env W → HndsAt W v l → Calls _ _ _ _ (fun e w' => e = .returned (.int .i64 (hnsE l)) ∧ _) at hck
  have ENV:=Lib.hid env
  have hal:=(Below.refl w.heap.size w).alloc (Nat.le_refl _) (.cells #[.int .i64 t] 3)
  have HV:=Lib.hid (HndsAt.kept hv hal);have HB:=Lib.hid hal;clear hal hv
  have HT:=Lib.hid (Blk.new w 3 #[.int .i64 t])
  obtain ⟨t0,tf0⟩:=HT.out.c1
  by_cases hz:hnsE l = 0
  · have hok:=ordP_ok (show ordP 256 hndE Hnd.ky l = 0 from hz)
    rw [donT_ok hz]
    rw [hz] at hck
    dsimp only
    have hdn:∀ W,HndsAt W v l → w.heap.size < W.heap.size → W.cell? ⟨w.heap.size,0,none⟩ = some (.int .i64 t) → Calls Tryz.prog 87 #[v,.func (.func 88) #[] #[.pointer (some ⟨w.heap.size,0,none⟩)]] W fun e w' => e = .returned (.bool (l.any (fun x => decide (t < x.st + x.ti)))) ∧ Below W.heap.size W w':=fun W h hB hc => by
      obtain ⟨p,c,rfl,hR⟩:=h
      exact hnd1_contains 88 (.pointer (some ⟨w.heap.size,0,none⟩)) l (fun x => decide (t < x.st + x.ti)) p c W.heap.size W hR (Nat.le_refl _) (by have:=hok.few;omega) (enters_of Tryz.func88 (by kernel_rfl) rfl) (fun x hx W2 hW => cl_done x t w.heap.size W2 (hnd_sum (hok.ok x hx)) (Nat.lt_of_lt_of_le hB hW.size) ((hW.cell (p:=⟨w.heap.size,0,none⟩) hB).trans hc))
    have hal2:l.all (fun x => !decide (t < x.st + x.ti)) = !(l.any (fun x => decide (t < x.st + x.ti))):=by rw [List.not_any_eq_all_not]
    rw [hal2]
    clear hal2
    generalize l.any (fun x => decide (t < x.st + x.ti)) = r at *
    have HCK:=Lib.hid hck;have HDN:=Lib.hid hdn;clear hck hdn hz hx hok
    clear t0 tf0
    obtain ⟨t0,tf0⟩:=HT.out.c1
    go_enter Tryz.func37,Tryz.ntmps37
    go_wp2_with (first | (with_reducible refine ((HCK.out _ (ENV.out.below HB.out) HV.out).mono ?_);rintro e w' ⟨rfl,hb⟩;replace HT:=Lib.hid (HT.out.keep hb);clear t0 tf0;replace HV:=Lib.hid (HndsAt.kept HV.out hb);replace HB:=Lib.hid (bch' HB.out hb);clear hb;obtain ⟨t0,tf0⟩:=HT.out.c1) | (with_reducible refine ((HDN.out _ HV.out HT.out.lt HT.out.c1.1).mono ?_);rintro e w' ⟨rfl,hb⟩;replace HT:=Lib.hid (HT.out.keep hb);clear t0 tf0;replace HV:=Lib.hid (HndsAt.kept HV.out hb);replace HB:=Lib.hid (bch' HB.out hb);clear hb;obtain ⟨t0,tf0⟩:=HT.out.c1))
    go_ret2
    exact ⟨rfl,HB.out⟩
  · rw [donT_bad hz]
    have hne:((hnsE l:Int) != 0) = true:=by simpa using hz
    clear hz hx
    generalize hnsE l = m at *
    have HCK:=Lib.hid hck;clear hck
    go_enter Tryz.func37,Tryz.ntmps37
    go_wp2_with (first | (with_reducible refine ((HCK.out _ (ENV.out.below HB.out) HV.out).mono ?_);rintro e w' ⟨rfl,hb⟩;replace HT:=Lib.hid (HT.out.keep hb);clear t0 tf0;replace HV:=Lib.hid (HndsAt.kept HV.out hb);replace HB:=Lib.hid (bch' HB.out hb);clear hb;obtain ⟨t0,tf0⟩:=HT.out.c1))
    go_ret2
    exact ⟨rfl,HB.out⟩
end Go.Proofs.YtknlohmkachbmaaGreatDoor
