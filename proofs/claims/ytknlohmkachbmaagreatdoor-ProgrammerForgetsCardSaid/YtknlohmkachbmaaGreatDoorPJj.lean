/-
  
-/
import Derived.Test.YtknlohmkachbmaaGreatDoorPJe
import Derived.Test.YtknlohmkachbmaaGreatDoorPJb
import Derived.Test.YtknlohmkachbmaaGreatDoorPJc
import Derived.Test.YtknlohmkachbmaaGreatDoorPHo
import Derived.Test.YtknlohmkachbmaaGreatDoorPJg
import Derived.Test.YtknlohmkachbmaaGreatDoorPHf
set_option linter.unusedVariables false
set_option linter.unusedSimpArgs false
set_option maxRecDepth 100000
set_option maxHeartbeats 8000000
namespace Lum
open Go Go.RowKit Go.Shelf
open Go.Lib (decDigits itoa)
def pmsE : List (Int × Int) → Int
  | [] => 0
  | p :: r => if paE p.1 p.2 ≠ 0 then paE p.1 p.2 else pmsE r
theorem pmsE_at {l:List (Int × Int)} {k:Nat} (h:k < l.length):pmsE (l.drop k) = if paE (l[k]'h).1 (l[k]'h).2 ≠ 0 then paE (l[k]'h).1 (l[k]'h).2 else pmsE (l.drop (k + 1)):=by rw [List.drop_eq_getElem_cons h];rfl
theorem pmsE_end {l:List (Int × Int)}:pmsE (l.drop l.length) = 0:=by rw [List.drop_length];rfl
def clrK (ps:List (Int × Int)) (x:Hnd):Bool:=decide (0 < ps.length) && !decide (x.ky ∈ ps)
def clrL (l:List Hnd) (ps:List (Int × Int)):List Hnd:=l.filter (clrK ps)
def clrE (l:List Hnd) (ps:List (Int × Int)):Int:=if hnsE l ≠ 0 then hnsE l else if 256 < ps.length then 5 else pmsE ps
def clrO (l:List Hnd) (ps:List (Int × Int)):List Hnd:=if clrE l ps = 0 then clrL l ps else []
theorem clrE_h {l:List Hnd} {ps:List (Int × Int)} (h:¬ hnsE l = 0):clrE l ps = hnsE l:=by unfold clrE;rw [if_pos h]
theorem clrE_many {l:List Hnd} {ps:List (Int × Int)} (h:hnsE l = 0) (h2:256 < ps.length):clrE l ps = 5:=by unfold clrE;rw [if_neg (by simpa using h),if_pos h2]
theorem clrE_p {l:List Hnd} {ps:List (Int × Int)} (h:hnsE l = 0) (h2:¬ 256 < ps.length):clrE l ps = pmsE ps:=by unfold clrE;rw [if_neg (by simpa using h),if_neg h2]
theorem clrO_bad {l:List Hnd} {ps:List (Int × Int)} (h:¬ clrE l ps = 0):clrO l ps = []:=by unfold clrO;rw [if_neg h]
theorem clrO_ok {l:List Hnd} {ps:List (Int × Int)} (h:clrE l ps = 0):clrO l ps = clrL l ps:=by unfold clrO;rw [if_pos h]
theorem clrL_none (l:List Hnd):clrL l [] = []:=by unfold clrL;rw [List.filter_eq_nil_iff];intro x _;unfold clrK;simp
theorem clrL_some {l:List Hnd} {ps:List (Int × Int)} (h:0 < ps.length):clrL l ps = l.filter (fun x => !decide (x.ky ∈ ps)):=by
  unfold clrL;congr 1;funext x;unfold clrK;rw [decide_eq_true h,Bool.true_and]
theorem entE_par (p:Int × Int):ordP 4096 entE Ent.ky [(⟨p.1,p.2,0,0⟩:Ent)] = paE p.1 p.2:=by
  have hv:valE 0 0 = 0:=by decide
  rw [ordP_few (by simp)]
  by_cases hz:paE p.1 p.2 = 0
  · have h1:entE (⟨p.1,p.2,0,0⟩:Ent) = 0:=(entE_va (x:=⟨p.1,p.2,0,0⟩) hz).trans hv
    rw [hz,ordQ_first (l:=[(⟨p.1,p.2,0,0⟩:Ent)]) (by simp) h1];rfl
  · have h1:entE (⟨p.1,p.2,0,0⟩:Ent) = paE p.1 p.2:=entE_pa (x:=⟨p.1,p.2,0,0⟩) hz
    rw [ordQ_err (l:=[(⟨p.1,p.2,0,0⟩:Ent)]) (by simp) (by rw [List.getElem_cons_zero,h1];exact hz)];exact h1
theorem filtT {α:Type} {p:α → Bool} {l:List α} {k:Nat} (h:k < l.length):(l.take (k + 1)).filter p = (l.take k).filter p ++ (if p (l[k]'h) = true then [l[k]'h] else []):=by
  rw [List.take_succ_eq_append_getElem h,List.filter_append];congr 1
  by_cases g:p (l[k]'h) = true
  · rw [if_pos g,List.filter_cons_of_pos g];rfl
  · rw [if_neg g,List.filter_cons_of_neg g];rfl
end Lum
namespace Go.Proofs.YtknlohmkachbmaaGreatDoor
open Go.RowKit Go.Shelf Lum
open Go.Lib (decDigits itoa)
attribute [local go_sem] bs_get bs_extract_end bs_extract_from bs_extract bs_append
theorem r29_cleared (l : List Hnd) (ps : List (Int × Int)) (v u : Value) (w : World) (hv : HndsAt w v l) (hu : PmsAt w u ps) (hn : l.length ≤ 1000000) (hp : ps.length ≤ 1000000) :
    Calls Tryz.prog 62 #[v,u] w fun e w' => ∃ v',e = .returned v' ∧ HndsAt w' v' (clrL l ps) ∧ Below w.heap.size w w':=by
  obtain ⟨p,c,rfl,hR⟩:=hv
  obtain ⟨p2,c2,rfl,hR2⟩:=hu
  skip
  have HU0:Hid (PmsAt w (.slice p2 ps.length c2) ps):=Lib.hid ⟨p2,c2,rfl,hR2⟩
  have hv2:=Lib.hid hR;have HFEW:=Lib.hid hn;have HPF:=Lib.hid hp;clear hR hR2 hn hp
  have HB:=Lib.hid (Below.refl w.heap.size w)
  obtain ⟨i0,hi,hz0,hz1,hz2⟩:=info_parts info_hd
  go_enter Tryz.func62,Tryz.ntmps62
  go_wp2_with fail
  go_loopw [5,6] (fun s j wr => ∃ (k n:Nat) (pp:Option Addr) (cc:Nat),s = .slice pp n cc ∧ j = .int .i64 (k:Int) ∧ k ≤ l.length ∧ Hid (n = ((l.take k).filter (clrK ps)).length) ∧ Hid (Below w.heap.size w wr) ∧ Hid (OwnR encHd 7 w.heap.size 28 wr pp cc ((l.take k).filter (clrK ps)))) (fun _ j _ => l.length - (intOf j).toNat)
  case atStart => exact ⟨0,0,none,0,rfl,rfl,Nat.zero_le _,Lib.hid (by simp),HB,Lib.hid (by rw [List.take_zero];exact OwnR.nil _ _ _)⟩
  case round =>
    obtain ⟨k,n,pp,cc,rfl,rfl,hk9,HN,HB2,HO⟩:=hrel
    clear HB
    have HB:=HB2;clear HB2
    have HU:=Lib.hid (PmsAt.kept HU0.out HB.out)
    by_cases hkl:k < l.length
    · have hlt:(k:Int) < (l.length:Int):=by omega
      have hk0:(0:Int) ≤ (k:Int):=by omega
      have hlo:k * 7 < 9223372036854775807:=by have:=HFEW.out;omega
      have hun:IntKind.i64.wrap ((k:Int) + 1) = (k:Int) + 1:=IntWalk.i64_in _ (by have:=HFEW.out;omega)
      obtain ⟨bb,oo,rfl,hbb,hC⟩:=hv2.out (fun h => by subst h;exact absurd hkl (Nat.not_lt_zero _))
      obtain ⟨x,hx⟩:∃ x,x = l[k]'hkl:=⟨_,rfl⟩
      have hcell:=hC k hkl
      rw [← hx] at hcell
      have HBb:=Lib.hid hbb;have HCX:=Lib.hid hcell
      have hft:=filtT (p:=clrK ps) hkl
      rw [← hx] at hft
      clear hcell hx hbb hC
      have y0:wr.cell? ⟨bb,oo + k * 7,none⟩ = some (.int .i64 (x.ch)):=(HB.out.cell (p:=⟨bb,oo + k * 7 + 0,none⟩) HBb.out).trans (HCX.out 0 _ rfl)
      have y1:wr.cell? ⟨bb,oo + k * 7 + 1,none⟩ = some (.int .i64 (x.at_)):=(HB.out.cell (p:=⟨bb,oo + k * 7 + 1,none⟩) HBb.out).trans (HCX.out 1 _ rfl)
      have y2:wr.cell? ⟨bb,oo + k * 7 + 2,none⟩ = some (.string ⟨x.fr.toArray⟩):=(HB.out.cell (p:=⟨bb,oo + k * 7 + 2,none⟩) HBb.out).trans (HCX.out 2 _ rfl)
      have y3:wr.cell? ⟨bb,oo + k * 7 + 3,none⟩ = some (.int .i64 (x.pa)):=(HB.out.cell (p:=⟨bb,oo + k * 7 + 3,none⟩) HBb.out).trans (HCX.out 3 _ rfl)
      have y4:wr.cell? ⟨bb,oo + k * 7 + 4,none⟩ = some (.int .i64 (x.lv)):=(HB.out.cell (p:=⟨bb,oo + k * 7 + 4,none⟩) HBb.out).trans (HCX.out 4 _ rfl)
      have y5:wr.cell? ⟨bb,oo + k * 7 + 5,none⟩ = some (.int .i64 (x.st)):=(HB.out.cell (p:=⟨bb,oo + k * 7 + 5,none⟩) HBb.out).trans (HCX.out 5 _ rfl)
      have y6:wr.cell? ⟨bb,oo + k * 7 + 6,none⟩ = some (.int .i64 (x.ti)):=(HB.out.cell (p:=⟨bb,oo + k * 7 + 6,none⟩) HBb.out).trans (HCX.out 6 _ rfl)
      have hbr:bb < wr.heap.size:=Nat.lt_of_lt_of_le HBb.out HB.out.size
      by_cases hp:0 < ps.length
      · have hpi:(0:Int) < (ps.length:Int):=by omega
        have hoc:=fun W (h:PmsAt W (.slice p2 ps.length c2) ps) => r29_occurs ps (.slice p2 ps.length c2) x.ch x.at_ W h (by have:=HPF.out;omega)
        by_cases hm:(x.ch,x.at_) ∈ ps
        · rw [decide_eq_true hm] at hoc
          have hck:clrK ps x = false:=by unfold clrK;rw [decide_eq_true hp,decide_eq_true (show x.ky ∈ ps from hm)];rfl
          rw [hck] at hft
          have HT:Hid (((l.take (k + 1)).filter (clrK ps)) = ((l.take k).filter (clrK ps))):=Lib.hid (by rw [hft];exact List.append_nil _)
          clear hm hck hft
          have HOC:=Lib.hid hoc;clear hoc
          go_wp2_with (first | (with_reducible refine ((HOC.out _ HU.out).mono ?_);rintro e w' ⟨rfl,hb⟩;replace HU:=Lib.hid (PmsAt.kept HU.out hb);replace HO:=Lib.hid (OwnR.keep HO.out hb);replace HB:=Lib.hid (bch' HB.out hb);clear hb))
          go_roundw
          case rel => exact ⟨k + 1,n,pp,cc,by first | rfl | simp,by first | rfl | simp,by omega,Lib.hid (by rw [HT.out];exact HN.out),HB,Lib.hid (by rw [HT.out];exact HO.out)⟩
          case measure => first | (simp [intOf];done) | (simp [intOf];omega)
        · rw [decide_eq_false hm] at hoc
          have hck:clrK ps x = true:=by unfold clrK;rw [decide_eq_true hp,decide_eq_false (show ¬ x.ky ∈ ps from hm)];rfl
          rw [hck] at hft
          have HT:Hid (((l.take (k + 1)).filter (clrK ps)) = ((l.take k).filter (clrK ps)) ++ [x]):=Lib.hid (by rw [hft];rfl)
          clear hm hck hft
          have HOC:=Lib.hid hoc;clear hoc
          go_upto_region 6 with (first | (with_reducible refine ((HOC.out _ HU.out).mono ?_);rintro e w' ⟨rfl,hb⟩;replace HU:=Lib.hid (PmsAt.kept HU.out hb);replace HO:=Lib.hid (OwnR.keep HO.out hb);replace HB:=Lib.hid (bch' HB.out hb);clear hb))
          clear y0 y1 y2 y3 y4 y5 y6 hbr
          have y0:w'.cell? ⟨bb,oo + k * 7,none⟩ = some (.int .i64 (x.ch)):=(HB.out.cell (p:=⟨bb,oo + k * 7 + 0,none⟩) HBb.out).trans (HCX.out 0 _ rfl)
          have y1:w'.cell? ⟨bb,oo + k * 7 + 1,none⟩ = some (.int .i64 (x.at_)):=(HB.out.cell (p:=⟨bb,oo + k * 7 + 1,none⟩) HBb.out).trans (HCX.out 1 _ rfl)
          have y2:w'.cell? ⟨bb,oo + k * 7 + 2,none⟩ = some (.string ⟨x.fr.toArray⟩):=(HB.out.cell (p:=⟨bb,oo + k * 7 + 2,none⟩) HBb.out).trans (HCX.out 2 _ rfl)
          have y3:w'.cell? ⟨bb,oo + k * 7 + 3,none⟩ = some (.int .i64 (x.pa)):=(HB.out.cell (p:=⟨bb,oo + k * 7 + 3,none⟩) HBb.out).trans (HCX.out 3 _ rfl)
          have y4:w'.cell? ⟨bb,oo + k * 7 + 4,none⟩ = some (.int .i64 (x.lv)):=(HB.out.cell (p:=⟨bb,oo + k * 7 + 4,none⟩) HBb.out).trans (HCX.out 4 _ rfl)
          have y5:w'.cell? ⟨bb,oo + k * 7 + 5,none⟩ = some (.int .i64 (x.st)):=(HB.out.cell (p:=⟨bb,oo + k * 7 + 5,none⟩) HBb.out).trans (HCX.out 5 _ rfl)
          have y6:w'.cell? ⟨bb,oo + k * 7 + 6,none⟩ = some (.int .i64 (x.ti)):=(HB.out.cell (p:=⟨bb,oo + k * 7 + 6,none⟩) HBb.out).trans (HCX.out 6 _ rfl)
          have hbr:bb < w'.heap.size:=Nat.lt_of_lt_of_le HBb.out HB.out.size
          go_wp2_with (first | (at_builtin;refine wpList_appR3 rfl (.tmp 26) (.tmp 31) 30 rfl w.heap.size 28 i0 (.agg #[.int .i64 0,.int .i64 0,.string ⟨#[]⟩,.int .i64 0,.int .i64 0,.int .i64 0,.int .i64 0]) 64 Tryz.underlying30 hi hz0 hz1 hz2 rfl (by decide) (by decide) pp cc n ((l.take k).filter (clrK ps)) (HN.out) _ x w'.heap.size (encHd_len _) (fun j u hu => cellN _ 28 hu) (encHd_one _) rfl (HO.out.keep ((Below.refl _ w').alloc (Nat.le_refl _) _)) rfl (by have:=List.length_filter_le (clrK ps) (l.take k);rw [List.length_take] at this;have:=HFEW.out;omega) (by have:=HB.out.size;rw [World.size_alloc];omega) ?_;intro p1 c1 w4 hO3 hb3 _;have HO3:=Lib.hid hO3;have HB3:=Lib.hid (HB.out.trans (((Below.refl _ w').alloc (by have:=HB.out.size;omega) _).trans hb3));clear hO3 hb3))
          go_roundw
          case rel => exact ⟨k + 1,n + 1,p1,c1,by first | rfl | simp,by first | rfl | simp,by omega,Lib.hid (by rw [HT.out,List.length_append,← HN.out];rfl),HB3,Lib.hid (by rw [HT.out];exact HO3.out)⟩
          case measure => first | (simp [intOf];done) | (simp [intOf];omega)
      · have hpi:¬ (0:Int) < (ps.length:Int):=by omega
        have hck:clrK ps x = false:=by unfold clrK;rw [decide_eq_false hp];rfl
        rw [hck] at hft
        have HT:Hid (((l.take (k + 1)).filter (clrK ps)) = ((l.take k).filter (clrK ps))):=Lib.hid (by rw [hft];exact List.append_nil _)
        clear hck hft
        go_wp2_with fail
        go_roundw
        case rel => exact ⟨k + 1,n,pp,cc,by first | rfl | simp,by first | rfl | simp,by omega,Lib.hid (by rw [HT.out];exact HN.out),HB,Lib.hid (by rw [HT.out];exact HO.out)⟩
        case measure => first | (simp [intOf];done) | (simp [intOf];omega)
    · have hlt:¬ (k:Int) < (l.length:Int):=by omega
      obtain rfl:k = l.length:=by omega
      have HTA:Hid (((l.take l.length).filter (clrK ps)) = clrL l ps):=Lib.hid (by rw [List.take_length];rfl)
      rw [HTA.out] at HN HO
      have HN2:=HN;clear HN
      go_wp2_with fail
      go_ret
      obtain rfl:=HN2.out
      exact ⟨_,rfl,⟨_,_,rfl,HO.out.row encHd_len⟩,HB.out⟩
theorem r29_clear (l : List Hnd) (ps : List (Int × Int)) (v u : Value) (w : World) (hv : HndsAt w v l) (hu : PmsAt w u ps) (hx : l.length ≤ 256 → ∀ x ∈ l, x.fr.length ≤ 1000) (hp : ps.length ≤ 1000000) :
    Calls Tryz.prog 17 #[v,u] w (SetP (clrO l ps) (clrE l ps) w):=by
  obtain ⟨p2,c2,rfl,hR2⟩:=hu
  have hu:PmsAt w (.slice p2 ps.length c2) ps:=⟨p2,c2,rfl,hR2⟩
  have hu0:=hu
  have hck:=fun W (h:HndsAt W v l) => r29_check l v W h hx
  change ∀ W,HndsAt W v l → Calls _ _ _ _ (fun e w' => e = .returned (.int .i64 (hnsE l)) ∧ _) at hck
  have HV:=Lib.hid hv;have HU:=Lib.hid hu;clear hv hu
  have HB:=Lib.hid (Below.refl w.heap.size w)
  by_cases h1:hnsE l = 0
  · by_cases h2:256 < ps.length
    · clear hu0
      have hlt9:(256:Int) < (ps.length:Int):=by omega
      have HE0:Hid (¬ clrE l ps = 0):=Lib.hid (by rw [clrE_many h1 h2];decide)
      rw [clrO_bad HE0.out,clrE_many h1 h2]
      rw [h1] at hck
      clear HE0 h1 h2 hx hR2
      have HCK:=Lib.hid hck;clear hck
      go_enter Tryz.func17,Tryz.ntmps17
      go_wp2_with (first | (with_reducible refine ((HCK.out _ HV.out).mono ?_);rintro e w' ⟨rfl,hb⟩;replace HV:=Lib.hid (HndsAt.kept HV.out hb);replace HU:=Lib.hid (PmsAt.kept HU.out hb);replace HB:=Lib.hid (bch' HB.out hb);clear hb))
      go_ret2
      exact SetP.nil rfl HB.out
    · have hlt9:¬ (256:Int) < (ps.length:Int):=by omega
      have HCE:Hid (clrE l ps = pmsE ps):=Lib.hid (clrE_p h1 h2)
      have hok:=ordP_ok (show ordP 256 hndE Hnd.ky l = 0 from h1)
      have HLF:Hid (l.length ≤ 256):=Lib.hid hok.few
      have HPF:Hid (ps.length ≤ 256):=Lib.hid (by omega)
      rw [h1] at hck
      have hv2:=Lib.hid hR2
      have HV0:=Lib.hid HV.out;have HU0:=Lib.hid hu0
      clear h1 h2 hok hx hR2 hp hu0
      have HCK:=Lib.hid hck;clear hck
      go_enter Tryz.func17,Tryz.ntmps17
      go_wp2_with (first | (with_reducible refine ((HCK.out _ HV.out).mono ?_);rintro e w' ⟨rfl,hb⟩;replace HV:=Lib.hid (HndsAt.kept HV.out hb);replace HU:=Lib.hid (PmsAt.kept HU.out hb);replace HB:=Lib.hid (bch' HB.out hb);clear hb))
      go_loopw [7] (fun s wr => ∃ k:Nat,s = .int .i64 (k:Int) ∧ k ≤ ps.length ∧ Hid (pmsE (ps.drop k) = pmsE ps) ∧ Hid (Below w.heap.size w wr)) (fun s _ => ps.length - (intOf s).toNat)
      case atStart => exact ⟨0,rfl,Nat.zero_le _,Lib.hid rfl,HB⟩
      case round =>
        obtain ⟨k,rfl,hk9,HS,HB2⟩:=hrel
        clear HB
        have HB:=HB2;clear HB2
        by_cases hkl:k < ps.length
        · have hlt:(k:Int) < (ps.length:Int):=by omega
          have hk0:(0:Int) ≤ (k:Int):=by omega
          have hlo:k * 2 < 9223372036854775807:=by have:=HPF.out;omega
          have hun:IntKind.i64.wrap ((k:Int) + 1) = (k:Int) + 1:=IntWalk.i64_in _ (by have:=HPF.out;omega)
          obtain ⟨b2,o2,rfl,hb2,hC⟩:=hv2.out (fun h => by subst h;exact absurd hkl (Nat.not_lt_zero _))
          obtain ⟨x,hx_⟩:∃ x,x = ps[k]'hkl:=⟨_,rfl⟩
          have hcell:=hC k hkl
          rw [← hx_] at hcell
          have hst:=pmsE_at hkl
          rw [← hx_,HS.out] at hst
          have y0:wr.cell? ⟨b2,o2 + k * 2,none⟩ = some (.int .i64 (x.1)):=(HB.out.cell (p:=⟨b2,o2 + k * 2 + 0,none⟩) hb2).trans (hcell 0 _ rfl)
          have y1:wr.cell? ⟨b2,o2 + k * 2 + 1,none⟩ = some (.int .i64 (x.2)):=(HB.out.cell (p:=⟨b2,o2 + k * 2 + 1,none⟩) hb2).trans (hcell 1 _ rfl)
          have hbr:b2 < wr.heap.size:=Nat.lt_of_lt_of_le hb2 HB.out.size
          clear hcell hx_ hb2 hC
          have hpe:=fun W => r15_par x.1 x.2 W
          by_cases hz:paE x.1 x.2 = 0
          · rw [if_neg (by simpa using hz)] at hst
            have HS2:Hid (pmsE (ps.drop (k + 1)) = pmsE ps):=Lib.hid hst.symm
            rw [hz] at hpe
            clear hst hz
            have HPE:=Lib.hid hpe;clear hpe
            go_wp2_with (first | (with_reducible refine ((HPE.out _).mono ?_);rintro e w' ⟨rfl,hb⟩;replace HB:=Lib.hid (bch' HB.out hb);clear hb))
            go_roundw
            case rel => exact ⟨k + 1,by first | rfl | simp,by omega,HS2,HB⟩
            case measure => first | (simp [intOf];done) | (simp [intOf];omega)
          · rw [if_pos hz] at hst
            have HE0:Hid (¬ clrE l ps = 0):=Lib.hid (by rw [HCE.out,hst];exact hz)
            have HE1:Hid (clrE l ps = paE x.1 x.2):=Lib.hid (by rw [HCE.out,hst])
            have HEO:=Lib.hid (clrO_bad HE0.out)
            have hne:((paE x.1 x.2:Int) != 0) = true:=by simpa using hz
            clear hst hz HE0
            generalize paE x.1 x.2 = m at *
            have HPE:=Lib.hid hpe;clear hpe
            go_wp2_with (first | (with_reducible refine ((HPE.out _).mono ?_);rintro e w' ⟨rfl,hb⟩;replace HB:=Lib.hid (bch' HB.out hb);clear hb))
            go_ret2
            rw [HEO.out,HE1.out]
            exact SetP.nil rfl HB.out
        · have hlt:¬ (k:Int) < (ps.length:Int):=by omega
          obtain rfl:k = ps.length:=by omega
          have hp0:pmsE ps = 0:=by rw [← HS.out];exact pmsE_end
          have HE1:Hid (clrE l ps = 0):=Lib.hid (by rw [HCE.out,hp0])
          have HEO:=Lib.hid (clrO_ok HE1.out)
          clear hp0
          have hcd:=fun W (h1:HndsAt W v l) (h2:PmsAt W (.slice p2 ps.length c2) ps) => r29_cleared l ps v (.slice p2 ps.length c2) W h1 h2 (by have:=HLF.out;omega) (by have:=HPF.out;omega)
          have HCD:=Lib.hid hcd;clear hcd
          generalize clrL l ps = L at *
          go_wp2_with (first | ((with_reducible refine ((HCD.out _ (HndsAt.kept HV0.out HB.out) (PmsAt.kept HU0.out HB.out)).mono ?_));rintro e w9 ⟨v9,rfl,ho9,hb⟩;obtain ⟨p9,c9,rfl,hR9⟩:=ho9;have HR9:=Lib.hid hR9;clear hR9;replace HB:=Lib.hid (bch' HB.out hb);clear hb))
          go_ret2
          rw [HEO.out,HE1.out]
          exact ⟨_,rfl,⟨_,_,rfl,HR9.out⟩,HB.out⟩
  · clear hu0
    have HE0:Hid (¬ clrE l ps = 0):=Lib.hid (by rw [clrE_h h1];exact h1)
    rw [clrO_bad HE0.out,clrE_h h1]
    have hne:((hnsE l:Int) != 0) = true:=by simpa using h1
    clear HE0 h1 hx hR2 hp
    generalize hnsE l = m at *
    have HCK:=Lib.hid hck;clear hck
    go_enter Tryz.func17,Tryz.ntmps17
    go_wp2_with (first | (with_reducible refine ((HCK.out _ HV.out).mono ?_);rintro e w' ⟨rfl,hb⟩;replace HV:=Lib.hid (HndsAt.kept HV.out hb);replace HU:=Lib.hid (PmsAt.kept HU.out hb);replace HB:=Lib.hid (bch' HB.out hb);clear hb))
    go_ret2
    exact SetP.nil rfl HB.out
theorem cl_clear (x : Hnd) (ps : List (Int × Int)) (p : Option Addr) (c B : Nat) (w : World) (hv : PmsAt w (.slice p ps.length c) ps) (hn : ps.length ≤ 1000000) (hB : B < w.heap.size) (hc : w.cell? ⟨B, 0, none⟩ = some (.slice p ps.length c)) :
    Calls Tryz.prog 60 #[.agg #[.int .i64 (x.ch),.int .i64 (x.at_),.string ⟨x.fr.toArray⟩,.int .i64 (x.pa),.int .i64 (x.lv),.int .i64 (x.st),.int .i64 (x.ti)],.pointer (some ⟨B,0,none⟩)] w fun e w' => e = .returned (.bool (decide (x.ky ∈ ps))) ∧ Below w.heap.size w w':=by
  have hpc:=fun W (h:PmsAt W (.slice p ps.length c) ps) => pm_contains ps (.slice p ps.length c) x.ch x.at_ W h hn
  have HBL:=Lib.hid hB;have HCC:=Lib.hid hc;clear hB hc
  have HK:=Lib.hid (Blk.new w 28 #[.int .i64 (x.ch),.int .i64 (x.at_),.string ⟨x.fr.toArray⟩,.int .i64 (x.pa),.int .i64 (x.lv),.int .i64 (x.st),.int .i64 (x.ti)])
  have HB:=Lib.hid ((Below.refl w.heap.size w).alloc (Nat.le_refl _) (.cells #[.int .i64 (x.ch),.int .i64 (x.at_),.string ⟨x.fr.toArray⟩,.int .i64 (x.pa),.int .i64 (x.lv),.int .i64 (x.st),.int .i64 (x.ti)] 28))
  obtain ⟨k0,k1,k2,k3,k4,k5,k6,kf0,kf1,kf2,kf3,kf4,kf5,kf6⟩:=HK.out.c7
  have HV:=Lib.hid (PmsAt.kept hv HB.out)
  clear hv
  have hcl:(w.alloc (.cells #[.int .i64 (x.ch),.int .i64 (x.at_),.string ⟨x.fr.toArray⟩,.int .i64 (x.pa),.int .i64 (x.lv),.int .i64 (x.st),.int .i64 (x.ti)] 28)).cell? ⟨B,0,none⟩ = some (.slice p ps.length c):=(HB.out.cell (p:=⟨B,0,none⟩) HBL.out).trans HCC.out
  have HPC:=Lib.hid hpc;clear hpc
  go_enter Tryz.func60,Tryz.ntmps60
  go_wp2_with (first | (with_reducible refine ((HPC.out _ HV.out).mono ?_);rintro e w' ⟨rfl,hb⟩;replace HB:=Lib.hid (bch' HB.out hb);clear hb))
  go_ret
  exact ⟨rfl,HB.out⟩
theorem own_pclear (l : List Hnd) (ps : List (Int × Int)) (v u : Value) (w : World) (hv : HndsAt w v l) (hu : PmsAt w u ps) (hx : l.length ≤ 256 → ∀ x ∈ l, x.fr.length ≤ 1000) (hp : ps.length ≤ 1000000) (env : Env w) :
    Calls Tryz.prog 16 #[v,u] w (SetP (clrO l ps) (clrE l ps) w):=by
  obtain ⟨p2,c2,rfl,hR2⟩:=hu
  have hu:PmsAt w (.slice p2 ps.length c2) ps:=⟨p2,c2,rfl,hR2⟩
  have hu0:=hu
  have hck:=fun W (e:Env W) (h:HndsAt W v l) => own_pcheck l v W h hx e
  change ∀ W,Env W → HndsAt W v l → Calls _ _ _ _ (fun e w' => e = .returned (.int .i64 (hnsE l)) ∧ _) at hck
  have ENV:=Lib.hid env
  have hal:=(Below.refl w.heap.size w).alloc (Nat.le_refl _) (.cells #[.slice p2 ps.length c2] 38)
  have HV:=Lib.hid (HndsAt.kept hv hal);have HU:=Lib.hid (PmsAt.kept hu hal);have HB:=Lib.hid hal;clear hal hv hu
  have HT:=Lib.hid (Blk.new w 38 #[.slice p2 ps.length c2])
  obtain ⟨t0,tf0⟩:=HT.out.c1
  by_cases h1:hnsE l = 0
  · by_cases h2:256 < ps.length
    · clear hu0
      have hlt9:(256:Int) < (ps.length:Int):=by omega
      have HE0:Hid (¬ clrE l ps = 0):=Lib.hid (by rw [clrE_many h1 h2];decide)
      rw [clrO_bad HE0.out,clrE_many h1 h2]
      rw [h1] at hck
      clear HE0 h1 h2 hx hR2
      have HCK:=Lib.hid hck;clear hck
      go_enter Tryz.func16,Tryz.ntmps16
      go_wp2_with (first | (with_reducible refine ((HCK.out _ (ENV.out.below HB.out) HV.out).mono ?_);rintro e w' ⟨rfl,hb⟩;replace HT:=Lib.hid (HT.out.keep hb);clear t0 tf0;replace HV:=Lib.hid (HndsAt.kept HV.out hb);replace HU:=Lib.hid (PmsAt.kept HU.out hb);replace HB:=Lib.hid (bch' HB.out hb);clear hb;obtain ⟨t0,tf0⟩:=HT.out.c1))
      go_ret2
      exact SetP.nil rfl HB.out
    · have hlt9:¬ (256:Int) < (ps.length:Int):=by omega
      have HCE:Hid (clrE l ps = pmsE ps):=Lib.hid (clrE_p h1 h2)
      have hok:=ordP_ok (show ordP 256 hndE Hnd.ky l = 0 from h1)
      have HLF:Hid (l.length ≤ 256):=Lib.hid hok.few
      have HPF:Hid (ps.length ≤ 256):=Lib.hid (by omega)
      rw [h1] at hck
      have hv2:=Lib.hid hR2
      have HU0:=Lib.hid hu0
      clear h1 h2 hok hx hR2 hp hu0
      have HCK:=Lib.hid hck;clear hck
      go_enter Tryz.func16,Tryz.ntmps16
      go_wp2_with (first | (with_reducible refine ((HCK.out _ (ENV.out.below HB.out) HV.out).mono ?_);rintro e w' ⟨rfl,hb⟩;replace HT:=Lib.hid (HT.out.keep hb);clear t0 tf0;replace HV:=Lib.hid (HndsAt.kept HV.out hb);replace HU:=Lib.hid (PmsAt.kept HU.out hb);replace HB:=Lib.hid (bch' HB.out hb);clear hb;obtain ⟨t0,tf0⟩:=HT.out.c1))
      go_loopw [20] (fun s wr => ∃ k:Nat,s = .int .i64 (k:Int) ∧ k ≤ ps.length ∧ Hid (pmsE (ps.drop k) = pmsE ps) ∧ Hid (Below w.heap.size w wr) ∧ Hid (Blk wr w.heap.size 38 #[.slice p2 ps.length c2]) ∧ Hid (HndsAt wr v l)) (fun s _ => ps.length - (intOf s).toNat)
      case atStart => exact ⟨0,rfl,Nat.zero_le _,Lib.hid rfl,HB,HT,HV⟩
      case round =>
        obtain ⟨k,rfl,hk9,HS,HB2,HT2,HV2⟩:=hrel
        clear HB HT HV t0 tf0
        have HB:=HB2;clear HB2
        have HT:=HT2;have HV:=HV2;clear HT2 HV2
        obtain ⟨t0,tf0⟩:=HT.out.c1
        by_cases hkl:k < ps.length
        · have hlt:(k:Int) < (ps.length:Int):=by omega
          have hk0:(0:Int) ≤ (k:Int):=by omega
          have hlo:k * 2 < 9223372036854775807:=by have:=HPF.out;omega
          have hun:IntKind.i64.wrap ((k:Int) + 1) = (k:Int) + 1:=IntWalk.i64_in _ (by have:=HPF.out;omega)
          obtain ⟨b2,o2,rfl,hb2,hC⟩:=hv2.out (fun h => by subst h;exact absurd hkl (Nat.not_lt_zero _))
          obtain ⟨x,hx_⟩:∃ x,x = ps[k]'hkl:=⟨_,rfl⟩
          have hcell:=hC k hkl
          rw [← hx_] at hcell
          have hst:=pmsE_at hkl
          rw [← hx_,HS.out] at hst
          have y0:wr.cell? ⟨b2,o2 + k * 2,none⟩ = some (.int .i64 (x.1)):=(HB.out.cell (p:=⟨b2,o2 + k * 2 + 0,none⟩) hb2).trans (hcell 0 _ rfl)
          have y1:wr.cell? ⟨b2,o2 + k * 2 + 1,none⟩ = some (.int .i64 (x.2)):=(HB.out.cell (p:=⟨b2,o2 + k * 2 + 1,none⟩) hb2).trans (hcell 1 _ rfl)
          have hbr:b2 < wr.heap.size:=Nat.lt_of_lt_of_le hb2 HB.out.size
          clear hcell hx_ hb2 hC
          have hpe:∀ W:World,Calls Tryz.prog 57 #[.slice (some ⟨W.heap.size,0,none⟩) 1 1] (W.alloc (.cells #[.int .i64 x.1,.int .i64 x.2,.int .i64 0,.int .i64 0] 55)) fun e w' => e = .returned (.int .i64 (paE x.1 x.2)) ∧ Below W.heap.size W w':=fun W => by
            have h:=own_pents [⟨x.1,x.2,0,0⟩] (.slice (some ⟨W.heap.size,0,none⟩) 1 1) (W.alloc (.cells #[.int .i64 x.1,.int .i64 x.2,.int .i64 0,.int .i64 0] 55)) ⟨_,_,rfl,fun _ => ⟨_,_,rfl,by simp,fun i hi j u hu => by
              have hi0:i = 0:=by simpa using hi
              subst hi0
              rw [show (0 + 0 * 4 + j) = j from by omega];exact cellN (cs:=encEn ⟨x.1,x.2,0,0⟩) W 55 hu⟩⟩
            rw [entE_par x] at h
            exact h.mono fun e w' ⟨h1,h2⟩ => ⟨h1,((Below.refl _ _).alloc (Nat.le_refl _) _).trans (h2.mono (by simp))⟩
          go_upto_region 9 with fail
          clear y0 y1 hbr
          have hb:=(Below.refl wr.heap.size wr).alloc (Nat.le_refl _) (.cells #[.int .i64 (x.1),.int .i64 (x.2)] 23)
          have HXP:=Lib.hid (Blk.new wr 23 #[.int .i64 (x.1),.int .i64 (x.2)])
          obtain ⟨n8,hn8⟩:∃ n,n = wr.heap.size:=⟨_,rfl⟩
          obtain ⟨Wa,hWWa⟩:∃ X,X = wr.alloc (.cells #[.int .i64 (x.1),.int .i64 (x.2)] 23):=⟨_,rfl⟩
          rw [← hn8] at HXP ⊢
          rw [← hWWa] at hb HXP ⊢
          replace HT:=Lib.hid (HT.out.keep hb);clear t0 tf0;replace HV:=Lib.hid (HndsAt.kept HV.out hb);replace HB:=Lib.hid (bch' HB.out hb);clear hb;obtain ⟨t0,tf0⟩:=HT.out.c1
          clear hWWa hn8
          obtain ⟨q0,q1,qf0,qf1⟩:=HXP.out.c2
          by_cases hz:paE x.1 x.2 = 0
          · rw [if_neg (by simpa using hz)] at hst
            have HS2:Hid (pmsE (ps.drop (k + 1)) = pmsE ps):=Lib.hid hst.symm
            rw [hz] at hpe
            clear hst hz
            have HPE:=Lib.hid hpe;clear hpe
            go_wp2_with (first | (with_reducible refine ((HPE.out _).mono ?_);rintro e w' ⟨rfl,hb⟩;replace HT:=Lib.hid (HT.out.keep hb);clear t0 tf0;replace HXP:=Lib.hid (HXP.out.keep hb);clear q0 q1 qf0 qf1;replace HV:=Lib.hid (HndsAt.kept HV.out hb);replace HB:=Lib.hid (bch' HB.out hb);clear hb;obtain ⟨t0,tf0⟩:=HT.out.c1;obtain ⟨q0,q1,qf0,qf1⟩:=HXP.out.c2))
            go_roundw
            case rel => exact ⟨k + 1,by first | rfl | simp,by omega,HS2,HB,HT,HV⟩
            case measure => first | (simp [intOf];done) | (simp [intOf];omega)
          · rw [if_pos hz] at hst
            have HE0:Hid (¬ clrE l ps = 0):=Lib.hid (by rw [HCE.out,hst];exact hz)
            have HE1:Hid (clrE l ps = paE x.1 x.2):=Lib.hid (by rw [HCE.out,hst])
            have HEO:=Lib.hid (clrO_bad HE0.out)
            have hne:((paE x.1 x.2:Int) != 0) = true:=by simpa using hz
            clear hst hz HE0
            generalize paE x.1 x.2 = m at *
            have HPE:=Lib.hid hpe;clear hpe
            go_wp2_with (first | (with_reducible refine ((HPE.out _).mono ?_);rintro e w' ⟨rfl,hb⟩;replace HT:=Lib.hid (HT.out.keep hb);clear t0 tf0;replace HXP:=Lib.hid (HXP.out.keep hb);clear q0 q1 qf0 qf1;replace HV:=Lib.hid (HndsAt.kept HV.out hb);replace HB:=Lib.hid (bch' HB.out hb);clear hb;obtain ⟨t0,tf0⟩:=HT.out.c1;obtain ⟨q0,q1,qf0,qf1⟩:=HXP.out.c2))
            go_ret2
            rw [HEO.out,HE1.out]
            exact SetP.nil rfl HB.out
        · have HBw:=HB
          have hlt:¬ (k:Int) < (ps.length:Int):=by omega
          obtain rfl:k = ps.length:=by omega
          have hp0:pmsE ps = 0:=by rw [← HS.out];exact pmsE_end
          have HE1:Hid (clrE l ps = 0):=Lib.hid (by rw [HCE.out,hp0])
          have HEO:=Lib.hid (clrO_ok HE1.out)
          clear hp0
          by_cases h0:ps.length = 0
          · have hps:ps = []:=List.length_eq_zero_iff.1 h0
            have heq:((ps.length:Int) == 0) = true:=by rw [beq_iff_eq];omega
            have HEN:Hid (clrL l ps = []):=Lib.hid (by rw [hps,clrL_none])
            clear hps
            go_wp2_with fail
            go_ret2
            rw [HEO.out,HE1.out,HEN.out]
            exact SetP.nil rfl HB.out
          · have heq:((ps.length:Int) == 0) = false:=by rw [beq_eq_false_iff_ne];omega
            have HEN:Hid (clrL l ps = l.filter (fun x => !decide (x.ky ∈ ps))):=Lib.hid (clrL_some (by omega))
            obtain ⟨p,c,rfl,hR⟩:=HV.out
            have HBU:Hid (PmsAt wr (.slice p2 ps.length c2) ps):=Lib.hid (PmsAt.kept HU0.out HB.out)
            have hcl:=own_hclone wr l p c hR (by have:=HLF.out;omega)
            have HT0:=HT
            have hde:=fun (W:World) (pp:Option Addr) (cc:Nat) (h1:OwnR encHd 7 wr.heap.size 28 W pp cc l) (h2:Below wr.heap.size wr W) => hnd1_delete 60 (.pointer (some ⟨w.heap.size,0,none⟩)) l (fun x => decide (x.ky ∈ ps)) pp cc wr.heap.size W h1 h2.size (by have:=HLF.out;omega) (enters_of Tryz.func60 (by kernel_rfl) rfl) (fun x _ W2 hW => by
              have h3:=h2.trans hW
              exact cl_clear x ps p2 c2 _ W2 (PmsAt.kept HBU.out h3) (by have:=HPF.out;omega) (HT0.out.keep h3).lt (HT0.out.keep h3).c1.1)
            clear hR
            have HCL:=Lib.hid hcl;clear hcl
            have HDE:=Lib.hid hde;clear hde
            go_wp2_with (first | (with_reducible refine ((HCL.out).mono ?_);rintro e w3 ⟨pc,cc,rfl,ho,hb⟩;have HO:=Lib.hid ho;have HB3:=Lib.hid hb;clear ho;replace HT:=Lib.hid (HT.out.keep hb);clear t0 tf0;replace HB:=Lib.hid (bch' HB.out hb);clear hb;obtain ⟨t0,tf0⟩:=HT.out.c1) | (with_reducible refine ((HDE.out _ _ _ HO.out HB3.out).mono ?_);rintro e w4 ⟨pd,cd,rfl,ho,hb⟩;have HO4:=Lib.hid ho;have HB4:=Lib.hid (HB3.out.trans hb);clear ho hb))
            go_ret2
            rw [HEO.out,HE1.out,HEN.out]
            exact ⟨_,rfl,⟨_,_,rfl,HO4.out.row encHd_len⟩,bch' HBw.out HB4.out⟩
  · clear hu0
    have HE0:Hid (¬ clrE l ps = 0):=Lib.hid (by rw [clrE_h h1];exact h1)
    rw [clrO_bad HE0.out,clrE_h h1]
    have hne:((hnsE l:Int) != 0) = true:=by simpa using h1
    clear HE0 h1 hx hR2 hp
    generalize hnsE l = m at *
    have HCK:=Lib.hid hck;clear hck
    go_enter Tryz.func16,Tryz.ntmps16
    go_wp2_with (first | (with_reducible refine ((HCK.out _ (ENV.out.below HB.out) HV.out).mono ?_);rintro e w' ⟨rfl,hb⟩;replace HT:=Lib.hid (HT.out.keep hb);clear t0 tf0;replace HV:=Lib.hid (HndsAt.kept HV.out hb);replace HU:=Lib.hid (PmsAt.kept HU.out hb);replace HB:=Lib.hid (bch' HB.out hb);clear hb;obtain ⟨t0,tf0⟩:=HT.out.c1))
    go_ret2
    exact SetP.nil rfl HB.out
end Go.Proofs.YtknlohmkachbmaaGreatDoor
set_option maxRecDepth 100000
set_option maxHeartbeats 8000000
namespace Lum
open Go Go.RowKit Go.Shelf
open Go.Lib (decDigits itoa)
def OffAt (W:World) (b o:Nat) (vs:List Value):Prop:=b < W.heap.size ∧ ∀ j u,vs[j]? = some u → W.cell? ⟨b,o + j,none⟩ = some u
theorem OffAt.keep {W W':World} {b o:Nat} {vs:List Value} (h:OffAt W b o vs) (hb:Below W.heap.size W W'):OffAt W' b o vs:=⟨Nat.lt_of_lt_of_le h.1 hb.size,fun j u hu => (hb.cell (p:=⟨b,o + j,none⟩) h.1).trans (h.2 j u hu)⟩
theorem HndsAt.one {W:World} {v:Value} {h:Hnd} (H:HndsAt W v [h]):∃ b o c,v = .slice (some ⟨b,o,none⟩) 1 c ∧ OffAt W b o (encHd h):=by
  obtain ⟨p,c,rfl,hR⟩:=H
  obtain ⟨b,o,rfl,hb,hC⟩:=hR (by simp)
  refine ⟨b,o,c,rfl,hb,fun j u hu => ?_⟩
  have:=hC 0 (by simp) j u hu
  rwa [Nat.zero_mul,Nat.add_zero] at this
theorem SetP.one {h:Hnd} {n:Int} {w w':World} {e:Ending} (H:SetP [h] n w e w'):∃ b o c,e = .returned (.tuple #[.slice (some ⟨b,o,none⟩) 1 c,.int .i64 n]) ∧ OffAt w' b o (encHd h) ∧ HndsAt w' (.slice (some ⟨b,o,none⟩) 1 c) [h] ∧ Below w.heap.size w w':=by
  obtain ⟨v,rfl,hv,hb⟩:=H
  obtain ⟨b,o,c,rfl,h2⟩:=hv.one
  exact ⟨b,o,c,rfl,h2,hv,hb⟩
theorem SetP.none {n:Int} {w w':World} {e:Ending} (H:SetP [] n w e w'):∃ p c,e = .returned (.tuple #[.slice p 0 c,.int .i64 n]) ∧ Below w.heap.size w w':=by
  obtain ⟨v,rfl,⟨p,c,rfl,-⟩,hb⟩:=H
  exact ⟨p,c,rfl,hb⟩
theorem entsAt_one (W:World) (x:Ent) (t:TypeId):EntsAt (W.alloc (.cells (encEn x).toArray t)) (.slice (some ⟨W.heap.size,0,none⟩) 1 1) [x]:=⟨_,_,rfl,fun _ => ⟨_,_,rfl,by simp,fun i hi j u hu => by
  have hi0:i = 0:=by simpa using hi
  subst hi0
  rw [show (0 + 0 * 4 + j) = j from by omega];exact cellN (cs:=encEn x) W t hu⟩⟩
theorem amtsAt_one (W:World) (x:Amt) (t:TypeId):AmtsAt (W.alloc (.cells (encAm x).toArray t)) (.slice (some ⟨W.heap.size,0,none⟩) 1 1) [x]:=⟨_,_,rfl,fun _ => ⟨_,_,rfl,by simp,fun i hi j u hu => by
  have hi0:i = 0:=by simpa using hi
  subst hi0
  rw [show (0 + 0 * 3 + j) = j from by omega];exact cellN (cs:=encAm x) W t hu⟩⟩
theorem hndsAt_nil (W:World):HndsAt W (.slice none 0 0) []:=⟨none,0,rfl,fun h => absurd rfl h⟩
theorem pmsAt_nil (W:World):PmsAt W (.slice none 0 0) []:=⟨none,0,rfl,fun h => absurd rfl h⟩
def exH1:Hnd:=⟨2,0,[52,49],0,100,1000,400⟩
def exH2:Hnd:=⟨2,0,[49,52,49,47,50],0,0,1200,100⟩
end Lum
namespace Go.Proofs.YtknlohmkachbmaaGreatDoor
open Go.RowKit Go.Shelf Lum
open Go.Lib (decDigits itoa)
attribute [local go_sem] bs_get bs_extract_end bs_extract_from bs_extract bs_append
theorem awk_set1 (W:World) (env:Env W):Calls Tryz.prog 20 #[.slice none 0 0,.int .i64 1000,.slice (some ⟨W.heap.size,0,none⟩) 1 1,.int .i64 400,.slice (some ⟨W.heap.size + 1,0,none⟩) 1 1] ((W.alloc (.cells #[.int .i64 2,.int .i64 0,.int .i64 0,.int .i64 100] 55)).alloc (.cells #[.int .i64 2,.int .i64 0,.string ⟨#[56,49,47,50]⟩] 63)) fun e w' => ∃ b o c,e = .returned (.tuple #[.slice (some ⟨b,o,none⟩) 1 c,.int .i64 0]) ∧ OffAt w' b o (encHd exH1) ∧ HndsAt w' (.slice (some ⟨b,o,none⟩) 1 c) [exH1] ∧ Below W.heap.size W w':=by
  have hE:setE [] 1000 [(⟨2,0,0,100⟩:Ent)] 400 [(⟨2,0,[56,49,47,50]⟩:Amt)] = 0:=by decide +kernel
  have hO:setO [] 1000 [(⟨2,0,0,100⟩:Ent)] 400 [(⟨2,0,[56,49,47,50]⟩:Amt)] = [exH1]:=by decide +kernel
  have hal:=((Below.refl W.heap.size W).alloc (Nat.le_refl _) (.cells #[.int .i64 2,.int .i64 0,.int .i64 0,.int .i64 100] 55)).alloc (by simp) (.cells #[.int .i64 2,.int .i64 0,.string ⟨#[56,49,47,50]⟩] 63)
  have hs:(W.alloc (.cells #[.int .i64 2,.int .i64 0,.int .i64 0,.int .i64 100] 55)).heap.size = W.heap.size + 1:=by simp
  have hen:EntsAt ((W.alloc (.cells #[.int .i64 2,.int .i64 0,.int .i64 0,.int .i64 100] 55)).alloc (.cells #[.int .i64 2,.int .i64 0,.string ⟨#[56,49,47,50]⟩] 63)) (.slice (some ⟨W.heap.size,0,none⟩) 1 1) [(⟨2,0,0,100⟩:Ent)]:=(entsAt_one W (⟨2,0,0,100⟩:Ent) 55).kept ((Below.refl _ _).alloc (Nat.le_refl _) _)
  have ham:AmtsAt ((W.alloc (.cells #[.int .i64 2,.int .i64 0,.int .i64 0,.int .i64 100] 55)).alloc (.cells #[.int .i64 2,.int .i64 0,.string ⟨#[56,49,47,50]⟩] 63)) (.slice (some ⟨W.heap.size + 1,0,none⟩) 1 1) [(⟨2,0,[56,49,47,50]⟩:Amt)]:=by
    have h:=amtsAt_one (W.alloc (.cells #[.int .i64 2,.int .i64 0,.int .i64 0,.int .i64 100] 55)) (⟨2,0,[56,49,47,50]⟩:Amt) 63
    rw [hs] at h;exact h
  have h:=own_pset [] 1000 [(⟨2,0,0,100⟩:Ent)] 400 [(⟨2,0,[56,49,47,50]⟩:Amt)] (.slice none 0 0) _ _ _ (hndsAt_nil _) hen ham (fun _ => by decide) (by decide) (by decide) (env.below hal)
  rw [hE,hO] at h
  exact h.mono fun e w' H => by
    obtain ⟨b,o,c,h1,h2,h3,h4⟩:=H.one
    exact ⟨b,o,c,h1,h2,h3,hal.trans (h4.mono (by simp;omega))⟩
theorem awk_set2 (v1:Value) (W:World) (env:Env W) (hv:HndsAt W v1 [exH1]):Calls Tryz.prog 20 #[v1,.int .i64 1200,.slice (some ⟨W.heap.size,0,none⟩) 1 1,.int .i64 100,.slice (some ⟨W.heap.size + 1,0,none⟩) 1 1] ((W.alloc (.cells #[.int .i64 2,.int .i64 0,.int .i64 0,.int .i64 0] 55)).alloc (.cells #[.int .i64 2,.int .i64 0,.string ⟨#[49,52,49,47,50]⟩] 63)) fun e w' => ∃ b o c,e = .returned (.tuple #[.slice (some ⟨b,o,none⟩) 1 c,.int .i64 0]) ∧ OffAt w' b o (encHd exH2) ∧ HndsAt w' (.slice (some ⟨b,o,none⟩) 1 c) [exH2] ∧ Below W.heap.size W w':=by
  have hE:setE [exH1] 1200 [(⟨2,0,0,0⟩:Ent)] 100 [(⟨2,0,[49,52,49,47,50]⟩:Amt)] = 0:=by decide +kernel
  have hO:setO [exH1] 1200 [(⟨2,0,0,0⟩:Ent)] 100 [(⟨2,0,[49,52,49,47,50]⟩:Amt)] = [exH2]:=by decide +kernel
  have hal:=((Below.refl W.heap.size W).alloc (Nat.le_refl _) (.cells #[.int .i64 2,.int .i64 0,.int .i64 0,.int .i64 0] 55)).alloc (by simp) (.cells #[.int .i64 2,.int .i64 0,.string ⟨#[49,52,49,47,50]⟩] 63)
  have hs:(W.alloc (.cells #[.int .i64 2,.int .i64 0,.int .i64 0,.int .i64 0] 55)).heap.size = W.heap.size + 1:=by simp
  have hen:EntsAt ((W.alloc (.cells #[.int .i64 2,.int .i64 0,.int .i64 0,.int .i64 0] 55)).alloc (.cells #[.int .i64 2,.int .i64 0,.string ⟨#[49,52,49,47,50]⟩] 63)) (.slice (some ⟨W.heap.size,0,none⟩) 1 1) [(⟨2,0,0,0⟩:Ent)]:=(entsAt_one W (⟨2,0,0,0⟩:Ent) 55).kept ((Below.refl _ _).alloc (Nat.le_refl _) _)
  have ham:AmtsAt ((W.alloc (.cells #[.int .i64 2,.int .i64 0,.int .i64 0,.int .i64 0] 55)).alloc (.cells #[.int .i64 2,.int .i64 0,.string ⟨#[49,52,49,47,50]⟩] 63)) (.slice (some ⟨W.heap.size + 1,0,none⟩) 1 1) [(⟨2,0,[49,52,49,47,50]⟩:Amt)]:=by
    have h:=amtsAt_one (W.alloc (.cells #[.int .i64 2,.int .i64 0,.int .i64 0,.int .i64 0] 55)) (⟨2,0,[49,52,49,47,50]⟩:Amt) 63
    rw [hs] at h;exact h
  have h:=own_pset [exH1] 1200 [(⟨2,0,0,0⟩:Ent)] 100 [(⟨2,0,[49,52,49,47,50]⟩:Amt)] (v1) _ _ _ (hv.kept hal) hen ham (fun _ => by decide) (by decide) (by decide) (env.below hal)
  rw [hE,hO] at h
  exact h.mono fun e w' H => by
    obtain ⟨b,o,c,h1,h2,h3,h4⟩:=H.one
    exact ⟨b,o,c,h1,h2,h3,hal.trans (h4.mono (by simp;omega))⟩
theorem l29_awake (w : World) (env : Env w) :
    Calls Tryz.prog 13 #[] w fun e w' => e = .returned (.bool true) ∧ Below w.heap.size w w':=by
  have ENV:=Lib.hid env;clear env
  have hs1:=fun W (e:Env W) => awk_set1 W e
  have hs2:=fun v W (e:Env W) (h:HndsAt W v [exH1]) => awk_set2 v W e h
  have hl1q:levT exH1 1000 100 = ([52,49],0):=by decide +kernel
  have hl1:=fun W (e:Env W) => own_plevel exH1.ch exH1.at_ exH1.fr exH1.pa exH1.lv exH1.st exH1.ti 1000 100 W (by decide) e
  rw [show levT ⟨exH1.ch,exH1.at_,exH1.fr,exH1.pa,exH1.lv,exH1.st,exH1.ti⟩ 1000 100 = ([52,49],0) from hl1q] at hl1
  clear hl1q
  dsimp only [exH1] at hl1
  have hl2q:levT exH1 1200 100 = ([49,52,49,47,50],0):=by decide +kernel
  have hl2:=fun W (e:Env W) => own_plevel exH1.ch exH1.at_ exH1.fr exH1.pa exH1.lv exH1.st exH1.ti 1200 100 W (by decide) e
  rw [show levT ⟨exH1.ch,exH1.at_,exH1.fr,exH1.pa,exH1.lv,exH1.st,exH1.ti⟩ 1200 100 = ([49,52,49,47,50],0) from hl2q] at hl2
  clear hl2q
  dsimp only [exH1] at hl2
  have hl3q:levT exH1 1400 100 = ([49,48,48],0):=by decide +kernel
  have hl3:=fun W (e:Env W) => own_plevel exH1.ch exH1.at_ exH1.fr exH1.pa exH1.lv exH1.st exH1.ti 1400 100 W (by decide) e
  rw [show levT ⟨exH1.ch,exH1.at_,exH1.fr,exH1.pa,exH1.lv,exH1.st,exH1.ti⟩ 1400 100 = ([49,48,48],0) from hl3q] at hl3
  clear hl3q
  dsimp only [exH1] at hl3
  have hl4q:levT exH2 1250 0 = ([49,52,49,47,52],0):=by decide +kernel
  have hl4:=fun W (e:Env W) => own_plevel exH2.ch exH2.at_ exH2.fr exH2.pa exH2.lv exH2.st exH2.ti 1250 0 W (by decide) e
  rw [show levT ⟨exH2.ch,exH2.at_,exH2.fr,exH2.pa,exH2.lv,exH2.st,exH2.ti⟩ 1250 0 = ([49,52,49,47,52],0) from hl4q] at hl4
  clear hl4q
  dsimp only [exH2] at hl4
  have hcl:=fun v W (e:Env W) (h:HndsAt W v [exH2]) => (own_pclear [exH2] [] v (.slice none 0 0) W h (pmsAt_nil W) (fun _ => by decide) (by decide) e)
  rw [show clrO [exH2] [] = [] from by decide +kernel,show clrE [exH2] [] = 0 from by decide +kernel] at hcl
  have hcl2:∀ v W,Env W → HndsAt W v [exH2] → Calls Tryz.prog 16 #[v,.slice none 0 0] W fun e w' => ∃ p c,e = .returned (.tuple #[.slice p 0 c,.int .i64 0]) ∧ Below W.heap.size W w':=fun v W e h => (hcl v W e h).mono fun e w' H => H.none
  clear hcl
  have HCL:=Lib.hid (fun W (e:Env W) v (h:HndsAt W v [exH2]) => hcl2 v W e h);clear hcl2
  have HS2:=Lib.hid (fun W v (e:Env W) (h:HndsAt W v [exH1]) => hs2 v W e h);clear hs2
  have HL1:=Lib.hid hl1;have HL2:=Lib.hid hl2;have HL3:=Lib.hid hl3;have HL4:=Lib.hid hl4;have HS1:=Lib.hid hs1;clear hl1 hl2 hl3 hl4 hs1
  have HB:=Lib.hid ((Below.refl w.heap.size w).alloc (Nat.le_refl _) (.cells #[.int .i64 2,.int .i64 0] 23))
  have HP:=Lib.hid (Blk.new w 23 #[.int .i64 2,.int .i64 0])
  obtain ⟨p0,p1,pf0,pf1⟩:=HP.out.c2
  go_enter Tryz.func13,Tryz.ntmps13
  go_upto_region 2 with fail
  obtain ⟨W1,hW1⟩:∃ X,X = w.alloc (.cells #[.int .i64 2,.int .i64 0] 23):=⟨_,rfl⟩
  rw [← hW1]
  rw [← hW1] at HB HP p0 p1 pf0 pf1
  clear hW1
  have hpa0:∀ o,(W1.alloc o).cell? ⟨w.heap.size,0,none⟩ = some (.int .i64 2):=fun o => (HP.out.alloc o).c2.1
  have hpa1:∀ o,(W1.alloc o).cell? ⟨w.heap.size,1,none⟩ = some (.int .i64 0):=fun o => (HP.out.alloc o).c2.2.1
  go_upto_region 5 with (first | ((with_reducible refine ((HS1.out _ (ENV.out.below HB.out)).mono ?_));rintro e w2 ⟨b1,o1,c1,rfl,ho,hv,hb⟩;have HV1:=Lib.hid hv;have HY:=Lib.hid ho;clear hv ho;replace HP:=Lib.hid (HP.out.keep hb);clear p0 p1 pf0 pf1;replace HB:=Lib.hid (bch' HB.out hb);clear hb;obtain ⟨p0,p1,pf0,pf1⟩:=HP.out.c2;have y0:=HY.out.2 0 (.int .i64 2) rfl;rw [Nat.add_zero] at y0;have y1:=HY.out.2 1 (.int .i64 0) rfl;have y2:=HY.out.2 2 (.string ⟨#[52,49]⟩) rfl;have y3:=HY.out.2 3 (.int .i64 0) rfl;have y4:=HY.out.2 4 (.int .i64 100) rfl;have y5:=HY.out.2 5 (.int .i64 1000) rfl;have y6:=HY.out.2 6 (.int .i64 400) rfl;have yL:=HY.out.1))
  clear hpa0 hpa1
  go_upto_region 8 with (first | ((with_reducible refine ((HL1.out _ (ENV.out.below HB.out)).mono ?_));rintro e w' ⟨rfl,hb⟩;replace HP:=Lib.hid (HP.out.keep hb);clear p0 p1 pf0 pf1;replace HY:=Lib.hid (HY.out.keep hb);clear y0 y1 y2 y3 y4 y5 y6 yL;replace HV1:=Lib.hid (HndsAt.kept HV1.out hb);replace HB:=Lib.hid (bch' HB.out hb);clear hb;obtain ⟨p0,p1,pf0,pf1⟩:=HP.out.c2;have y0:=HY.out.2 0 (.int .i64 2) rfl;rw [Nat.add_zero] at y0;have y1:=HY.out.2 1 (.int .i64 0) rfl;have y2:=HY.out.2 2 (.string ⟨#[52,49]⟩) rfl;have y3:=HY.out.2 3 (.int .i64 0) rfl;have y4:=HY.out.2 4 (.int .i64 100) rfl;have y5:=HY.out.2 5 (.int .i64 1000) rfl;have y6:=HY.out.2 6 (.int .i64 400) rfl;have yL:=HY.out.1) | ((with_reducible refine ((HL2.out _ (ENV.out.below HB.out)).mono ?_));rintro e w' ⟨rfl,hb⟩;replace HP:=Lib.hid (HP.out.keep hb);clear p0 p1 pf0 pf1;replace HY:=Lib.hid (HY.out.keep hb);clear y0 y1 y2 y3 y4 y5 y6 yL;replace HV1:=Lib.hid (HndsAt.kept HV1.out hb);replace HB:=Lib.hid (bch' HB.out hb);clear hb;obtain ⟨p0,p1,pf0,pf1⟩:=HP.out.c2;have y0:=HY.out.2 0 (.int .i64 2) rfl;rw [Nat.add_zero] at y0;have y1:=HY.out.2 1 (.int .i64 0) rfl;have y2:=HY.out.2 2 (.string ⟨#[52,49]⟩) rfl;have y3:=HY.out.2 3 (.int .i64 0) rfl;have y4:=HY.out.2 4 (.int .i64 100) rfl;have y5:=HY.out.2 5 (.int .i64 1000) rfl;have y6:=HY.out.2 6 (.int .i64 400) rfl;have yL:=HY.out.1) | ((with_reducible refine ((HL3.out _ (ENV.out.below HB.out)).mono ?_));rintro e w' ⟨rfl,hb⟩;replace HP:=Lib.hid (HP.out.keep hb);clear p0 p1 pf0 pf1;replace HY:=Lib.hid (HY.out.keep hb);clear y0 y1 y2 y3 y4 y5 y6 yL;replace HV1:=Lib.hid (HndsAt.kept HV1.out hb);replace HB:=Lib.hid (bch' HB.out hb);clear hb;obtain ⟨p0,p1,pf0,pf1⟩:=HP.out.c2;have y0:=HY.out.2 0 (.int .i64 2) rfl;rw [Nat.add_zero] at y0;have y1:=HY.out.2 1 (.int .i64 0) rfl;have y2:=HY.out.2 2 (.string ⟨#[52,49]⟩) rfl;have y3:=HY.out.2 3 (.int .i64 0) rfl;have y4:=HY.out.2 4 (.int .i64 100) rfl;have y5:=HY.out.2 5 (.int .i64 1000) rfl;have y6:=HY.out.2 6 (.int .i64 400) rfl;have yL:=HY.out.1))
  have hpa0:∀ o,(w'.alloc o).cell? ⟨w.heap.size,0,none⟩ = some (.int .i64 2):=fun o => (HP.out.alloc o).c2.1
  have hpa1:∀ o,(w'.alloc o).cell? ⟨w.heap.size,1,none⟩ = some (.int .i64 0):=fun o => (HP.out.alloc o).c2.2.1
  go_upto_region 11 with (first | ((with_reducible refine ((HS2.out _ _ (ENV.out.below HB.out) HV1.out).mono ?_));rintro e w4 ⟨b2,o2,c2,rfl,ho,hv,hb⟩;have HV2:=Lib.hid hv;have HZ:=Lib.hid ho;clear hv ho;replace HP:=Lib.hid (HP.out.keep hb);clear p0 p1 pf0 pf1;replace HY:=Lib.hid (HY.out.keep hb);clear y0 y1 y2 y3 y4 y5 y6 yL;replace HV1:=Lib.hid (HndsAt.kept HV1.out hb);replace HB:=Lib.hid (bch' HB.out hb);clear hb;obtain ⟨p0,p1,pf0,pf1⟩:=HP.out.c2;have y0:=HY.out.2 0 (.int .i64 2) rfl;rw [Nat.add_zero] at y0;have y1:=HY.out.2 1 (.int .i64 0) rfl;have y2:=HY.out.2 2 (.string ⟨#[52,49]⟩) rfl;have y3:=HY.out.2 3 (.int .i64 0) rfl;have y4:=HY.out.2 4 (.int .i64 100) rfl;have y5:=HY.out.2 5 (.int .i64 1000) rfl;have y6:=HY.out.2 6 (.int .i64 400) rfl;have yL:=HY.out.1;have z0:=HZ.out.2 0 (.int .i64 2) rfl;rw [Nat.add_zero] at z0;have z1:=HZ.out.2 1 (.int .i64 0) rfl;have z2:=HZ.out.2 2 (.string ⟨#[49,52,49,47,50]⟩) rfl;have z3:=HZ.out.2 3 (.int .i64 0) rfl;have z4:=HZ.out.2 4 (.int .i64 0) rfl;have z5:=HZ.out.2 5 (.int .i64 1200) rfl;have z6:=HZ.out.2 6 (.int .i64 100) rfl;have zL:=HZ.out.1))
  clear hpa0 hpa1
  clear HV1 HY;clear y0 y1 y2 y3 y4 y5 y6 yL
  go_wp2_with (first | ((with_reducible refine ((HL4.out _ (ENV.out.below HB.out)).mono ?_));rintro e w' ⟨rfl,hb⟩;replace HP:=Lib.hid (HP.out.keep hb);clear p0 p1 pf0 pf1;replace HZ:=Lib.hid (HZ.out.keep hb);clear z0 z1 z2 z3 z4 z5 z6 zL;replace HV2:=Lib.hid (HndsAt.kept HV2.out hb);replace HB:=Lib.hid (bch' HB.out hb);clear hb;obtain ⟨p0,p1,pf0,pf1⟩:=HP.out.c2;have z0:=HZ.out.2 0 (.int .i64 2) rfl;rw [Nat.add_zero] at z0;have z1:=HZ.out.2 1 (.int .i64 0) rfl;have z2:=HZ.out.2 2 (.string ⟨#[49,52,49,47,50]⟩) rfl;have z3:=HZ.out.2 3 (.int .i64 0) rfl;have z4:=HZ.out.2 4 (.int .i64 0) rfl;have z5:=HZ.out.2 5 (.int .i64 1200) rfl;have z6:=HZ.out.2 6 (.int .i64 100) rfl;have zL:=HZ.out.1) | ((with_reducible refine ((HCL.out _ (ENV.out.below HB.out) _ HV2.out).mono ?_));rintro e w' ⟨p9,c9,rfl,hb⟩;replace HP:=Lib.hid (HP.out.keep hb);clear p0 p1 pf0 pf1;replace HZ:=Lib.hid (HZ.out.keep hb);clear z0 z1 z2 z3 z4 z5 z6 zL;replace HV2:=Lib.hid (HndsAt.kept HV2.out hb);replace HB:=Lib.hid (bch' HB.out hb);clear hb;obtain ⟨p0,p1,pf0,pf1⟩:=HP.out.c2;have z0:=HZ.out.2 0 (.int .i64 2) rfl;rw [Nat.add_zero] at z0;have z1:=HZ.out.2 1 (.int .i64 0) rfl;have z2:=HZ.out.2 2 (.string ⟨#[49,52,49,47,50]⟩) rfl;have z3:=HZ.out.2 3 (.int .i64 0) rfl;have z4:=HZ.out.2 4 (.int .i64 0) rfl;have z5:=HZ.out.2 5 (.int .i64 1200) rfl;have z6:=HZ.out.2 6 (.int .i64 100) rfl;have zL:=HZ.out.1))
  go_ret
  exact ⟨rfl,HB.out⟩
end Go.Proofs.YtknlohmkachbmaaGreatDoor
