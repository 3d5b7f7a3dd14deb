/-
  
-/
import Derived.Test.YtmjkenlifgmeeaaGreatDoorQzHd
import Derived.Test.YtmjkenlifgmeeaaGreatDoorQzHh
import Derived.Test.YtmjkenlifgmeeaaGreatDoorQzHf
set_option linter.unusedVariables false
set_option linter.unusedSimpArgs false
namespace Lum
open Go Go.RowKit Go.Shelf
open Go.Lib (decDigits itoa)
def fewH (l:List Hnd):Bool:=(l.take 30).all (fun x => decide (x.fr.length ≤ 60)) && (decide (l.length ≤ 30) || (decide (256 < l.length) && decide (l.length < 400)))
end Lum
namespace Go.Proofs.YtmjkenlifgmeeaaGreatDoor
open Go.RowKit Go.Shelf Lum
open Go.Lib (decDigits itoa)
attribute [local go_sem] bs_get bs_extract_end bs_extract_from bs_extract bs_append
end Go.Proofs.YtmjkenlifgmeeaaGreatDoor
namespace Lum
open Go Go.RowKit Go.Shelf
open Go.Lib (decDigits itoa)
def donT (l:List Hnd) (t:Int):Bool × Int:=if hnsE l ≠ 0 then (false,hnsE l) else (l.all (fun x => !decide (t < x.st + x.ti)),0)
end Lum
namespace Go.Proofs.YtmjkenlifgmeeaaGreatDoor
open Go.RowKit Go.Shelf Lum
open Go.Lib (decDigits itoa)
attribute [local go_sem] bs_get bs_extract_end bs_extract_from bs_extract bs_append
end Go.Proofs.YtmjkenlifgmeeaaGreatDoor
set_option maxRecDepth 100000
set_option maxHeartbeats 4000000
namespace Lum
open Go Go.RowKit Go.Shelf
open Go.Lib (decDigits itoa)
def entO (x:Hnd):Ent:=⟨x.ch,x.at_,x.pa,x.lv⟩
def EntP (l:List Ent) (n:Int) (w:World) (e:Ending) (w':World):Prop:=∃ v',e = .returned (.tuple #[v',.int .i64 n]) ∧ EntsAt w' v' l ∧ Below w.heap.size w w'
theorem EntP.nil {n:Int} {w w':World} {e:Ending} (he:e = .returned (.tuple #[.slice none 0 0,.int .i64 n])) (h:Below w.heap.size w w'):EntP [] n w e w':=⟨_,he,⟨none,0,rfl,fun h => absurd rfl h⟩,h⟩
def entsL (l:List Hnd):List Ent:=if hnsE l = 0 then l.map entO else []
end Lum
namespace Go.Proofs.YtmjkenlifgmeeaaGreatDoor
open Go.RowKit Go.Shelf Lum
open Go.Lib (decDigits itoa)
attribute [local go_sem] bs_get bs_extract_end bs_extract_from bs_extract bs_append
theorem info_en:(Tryz.prog.info? 38).map (fun i => (i.zero,i.size,i.bytes)) = some (some (.agg #[.int .i64 0,.int .i64 0,.int .i64 0,.int .i64 0]),4,32):=by kernel_rfl
theorem own_pentries (l : List Hnd) (v : Value) (w : World) (hv : HndsAt w v l) (hx : l.length ≤ 256 → ∀ x ∈ l, x.fr.length ≤ 1000) (env : Env w) :
    Calls Tryz.prog 17 #[v] w (EntP (entsL l) (hnsE l) w):=by
  have hck:=fun W (e:Env W) (h:HndsAt W v l) => own_pcheck l v W h hx e
  change ∀ W,Env W → HndsAt W v l → Calls _ _ _ _ (fun e w' => e = .returned (.int .i64 (hnsE l)) ∧ _) at hck
  have HV:=Lib.hid hv;have ENV:=Lib.hid env
  have HB:=Lib.hid (Below.refl w.heap.size w)
  by_cases hz:hnsE l = 0
  · have hok:=ordP_ok (show ordP 256 hndE Hnd.ky l = 0 from hz)
    rw [show entsL l = l.map entO from if_pos hz,hz]
    rw [hz] at hck
    have HFEW:=Lib.hid hok.few
    clear hz hx hok
    have HCK:=Lib.hid hck;clear hck
    obtain ⟨p,c,rfl,hR⟩:=hv
    have hv2:=Lib.hid hR;clear hR
    obtain ⟨i0,hi,hz0,hz1,hz2⟩:=info_parts info_en
    go_enter Tryz.func17,Tryz.ntmps17
    go_wp2_with (first | (with_reducible refine ((HCK.out _ (ENV.out.below HB.out) HV.out).mono ?_);rintro e w' ⟨rfl,hb⟩;replace HV:=Lib.hid (HndsAt.kept HV.out hb);replace HB:=Lib.hid (bch' HB.out hb);clear hb))
    clear HV
    go_loopw [5,15] (fun s j wr => ∃ (k n:Nat) (pp:Option Addr) (cc:Nat),s = .slice pp n cc ∧ j = .int .i64 (k:Int) ∧ k ≤ l.length ∧ Hid (n = ((l.take k).map entO).length) ∧ Hid (Below w.heap.size w wr) ∧ Hid (OwnR encEn 4 w.heap.size 38 wr pp cc ((l.take k).map entO))) (fun _ j _ => l.length - (intOf j).toNat)
    case atStart => exact ⟨0,0,none,0,rfl,rfl,Nat.zero_le _,Lib.hid (by simp),HB,Lib.hid (by rw [List.take_zero];exact OwnR.nil _ _ _)⟩
    case round =>
      obtain ⟨k,n,pp,cc,rfl,rfl,hk9,HN,HB2,HO⟩:=hrel
      clear HB
      have HB:=HB2;clear HB2
      by_cases hkl:k < l.length
      · have hlt:(k:Int) < (l.length:Int):=by omega
        have hk0:(0:Int) ≤ (k:Int):=by omega
        have hlo:k * 7 < 9223372036854775807:=by have:=HFEW.out;omega
        have hun:IntKind.i64.wrap ((k:Int) + 1) = (k:Int) + 1:=IntWalk.i64_in _ (by have:=HFEW.out;omega)
        obtain ⟨bb,oo,rfl,hbb,hC⟩:=hv2.out (fun h => by subst h;exact absurd hkl (Nat.not_lt_zero _))
        obtain ⟨x,hx⟩:∃ x,x = l[k]'hkl:=⟨_,rfl⟩
        have hcell:=hC k hkl
        rw [← hx] at hcell
        have y0:wr.cell? ⟨bb,oo + k * 7,none⟩ = some (.int .i64 (x.ch)):=(HB.out.cell (p:=⟨bb,oo + k * 7 + 0,none⟩) hbb).trans (hcell 0 _ rfl)
        have y1:wr.cell? ⟨bb,oo + k * 7 + 1,none⟩ = some (.int .i64 (x.at_)):=(HB.out.cell (p:=⟨bb,oo + k * 7 + 1,none⟩) hbb).trans (hcell 1 _ rfl)
        have y2:wr.cell? ⟨bb,oo + k * 7 + 2,none⟩ = some (.string ⟨x.fr.toArray⟩):=(HB.out.cell (p:=⟨bb,oo + k * 7 + 2,none⟩) hbb).trans (hcell 2 _ rfl)
        have y3:wr.cell? ⟨bb,oo + k * 7 + 3,none⟩ = some (.int .i64 (x.pa)):=(HB.out.cell (p:=⟨bb,oo + k * 7 + 3,none⟩) hbb).trans (hcell 3 _ rfl)
        have y4:wr.cell? ⟨bb,oo + k * 7 + 4,none⟩ = some (.int .i64 (x.lv)):=(HB.out.cell (p:=⟨bb,oo + k * 7 + 4,none⟩) hbb).trans (hcell 4 _ rfl)
        have y5:wr.cell? ⟨bb,oo + k * 7 + 5,none⟩ = some (.int .i64 (x.st)):=(HB.out.cell (p:=⟨bb,oo + k * 7 + 5,none⟩) hbb).trans (hcell 5 _ rfl)
        have y6:wr.cell? ⟨bb,oo + k * 7 + 6,none⟩ = some (.int .i64 (x.ti)):=(HB.out.cell (p:=⟨bb,oo + k * 7 + 6,none⟩) hbb).trans (hcell 6 _ rfl)
        have hbr:bb < wr.heap.size:=Nat.lt_of_lt_of_le hbb HB.out.size
        have HT:Hid (((l.take (k + 1)).map entO) = ((l.take k).map entO) ++ [entO x]):=Lib.hid (by rw [List.take_succ_eq_append_getElem hkl,List.map_append,← hx];rfl)
        have HBb:=Lib.hid hbb;have HCX:=Lib.hid hcell
        clear hcell hx hbb hC
        go_upto_region 8 with fail
        clear y0 y1 y2 y3 y4 y5 y6 hbr
        have hb:=(Below.refl wr.heap.size wr).alloc (Nat.le_refl _) (.cells #[.int .i64 (x.ch),.int .i64 (x.at_),.string ⟨x.fr.toArray⟩,.int .i64 (x.pa),.int .i64 (x.lv),.int .i64 (x.st),.int .i64 (x.ti)] 77)
        have HX:=Lib.hid (Blk.new wr 77 #[.int .i64 (x.ch),.int .i64 (x.at_),.string ⟨x.fr.toArray⟩,.int .i64 (x.pa),.int .i64 (x.lv),.int .i64 (x.st),.int .i64 (x.ti)])
        obtain ⟨n8,hn8⟩:∃ n,n = wr.heap.size:=⟨_,rfl⟩
        obtain ⟨Wa,hWWa⟩:∃ X,X = wr.alloc (.cells #[.int .i64 (x.ch),.int .i64 (x.at_),.string ⟨x.fr.toArray⟩,.int .i64 (x.pa),.int .i64 (x.lv),.int .i64 (x.st),.int .i64 (x.ti)] 77):=⟨_,rfl⟩
        rw [← hn8] at HX ⊢
        rw [← hWWa] at hb HX ⊢
        replace HO:=Lib.hid (OwnR.keep HO.out hb);replace HB:=Lib.hid (bch' HB.out hb);clear hb
        clear hWWa hn8
        obtain ⟨q0,q1,q2,q3,q4,q5,q6,qf0,qf1,qf2,qf3,qf4,qf5,qf6⟩:=HX.out.c7
        go_wp2_with (first | (at_builtin;refine wpList_appR3 rfl (.tmp 19) (.tmp 25) 25 rfl w.heap.size 38 i0 (.agg #[.int .i64 0,.int .i64 0,.int .i64 0,.int .i64 0]) 32 Tryz.underlying25 hi hz0 hz1 hz2 rfl (by decide) (by decide) pp cc n (((l.take k).map entO)) (HN.out) _ (entO x) Wa.heap.size (encEn_len _) (fun j u hu => cellN _ 38 hu) (encEn_one _) rfl (HO.out.keep ((Below.refl _ Wa).alloc (Nat.le_refl _) _)) rfl (by have:=HFEW.out;rw [List.length_map,List.length_take];omega) (by have:=HB.out.size;rw [World.size_alloc];omega) ?_;intro p1 c1 w4 hO3 hb3 _;have HO3:=Lib.hid hO3;have HB3:=Lib.hid (HB.out.trans (((Below.refl _ Wa).alloc (by have:=HB.out.size;omega) _).trans hb3));clear hO3 hb3))
        go_roundw
        case rel => exact ⟨k + 1,n + 1,p1,c1,by first | rfl | simp,by first | rfl | simp,by omega,Lib.hid (by rw [HT.out,List.length_append,← HN.out];rfl),HB3,Lib.hid (by rw [HT.out];exact HO3.out)⟩
        case measure => first | (simp [intOf];done) | (simp [intOf];omega)
      · have hlt:¬ (k:Int) < (l.length:Int):=by omega
        obtain rfl:k = l.length:=by omega
        have HTA:Hid (((l.take l.length).map entO) = l.map entO):=Lib.hid (by rw [List.take_length])
        rw [HTA.out] at HN HO
        have HN2:=HN;clear HN
        go_wp2_with fail
        go_ret2
        obtain rfl:=HN2.out
        exact ⟨_,rfl,⟨_,_,rfl,HO.out.row encEn_len⟩,HB.out⟩
  · rw [show entsL l = [] from if_neg hz]
    have hne:((hnsE l:Int) != 0) = true:=by simpa using hz
    clear hz hx hv
    generalize hnsE l = m at *
    have HCK:=Lib.hid hck;clear hck
    go_enter Tryz.func17,Tryz.ntmps17
    go_wp2_with (first | (with_reducible refine ((HCK.out _ (ENV.out.below HB.out) HV.out).mono ?_);rintro e w' ⟨rfl,hb⟩;replace HV:=Lib.hid (HndsAt.kept HV.out hb);replace HB:=Lib.hid (bch' HB.out hb);clear hb))
    go_ret2
    exact EntP.nil rfl HB.out
end Go.Proofs.YtmjkenlifgmeeaaGreatDoor
namespace Lum
open Go Go.RowKit Go.Shelf
open Go.Lib (decDigits itoa)
def encPm (x:Int × Int):List Value:=[.int .i64 x.1,.int .i64 x.2]
def PmsAt (W:World) (v:Value) (l:List (Int × Int)):Prop:=∃ p c,v = .slice p l.length c ∧ RowX encPm 2 W p l
theorem PmsAt.kept {W W':World} {v:Value} {l:List (Int × Int)} (h:PmsAt W v l) (hb:Below W.heap.size W W'):PmsAt W' v l:=by
  obtain ⟨p,c,rfl,h⟩:=h
  exact ⟨p,c,rfl,h.kept hb⟩
end Lum
namespace Go.Proofs.YtmjkenlifgmeeaaGreatDoor
open Go.RowKit Go.Shelf Lum
open Go.Lib (decDigits itoa)
attribute [local go_sem] bs_get bs_extract_end bs_extract_from bs_extract bs_append
end Go.Proofs.YtmjkenlifgmeeaaGreatDoor
namespace Lum
open Go Go.RowKit Go.Shelf
open Go.Lib (decDigits itoa)
def AmtsAt (W:World) (v:Value) (l:List Amt):Prop:=∃ p c,v = .slice p l.length c ∧ RowX encAm 3 W p l
theorem AmtsAt.kept {W W':World} {v:Value} {l:List Amt} (h:AmtsAt W v l) (hb:Below W.heap.size W W'):AmtsAt W' v l:=by
  obtain ⟨p,c,rfl,h⟩:=h
  exact ⟨p,c,rfl,h.kept hb⟩
def fitL : List Ent → List Amt → Int
  | e :: r,a :: s => if a.ky = e.ky then (if levE a.le = 0 then fitL r s else levE a.le) else 9
  | _,_ => 0
def fitE (es:List Ent) (l:List Amt):Int:=if l.length = es.length then fitL es l else 14
theorem fitL_at {es:List Ent} {l:List Amt} {k:Nat} (h1:k < es.length) (h2:k < l.length):fitL (es.drop k) (l.drop k) = if (l[k]'h2).ky = (es[k]'h1).ky then (if levE (l[k]'h2).le = 0 then fitL (es.drop (k + 1)) (l.drop (k + 1)) else levE (l[k]'h2).le) else 9:=by
  rw [List.drop_eq_getElem_cons h1,List.drop_eq_getElem_cons h2];rfl
theorem fitL_end {es:List Ent} {l:List Amt} (h:l.length = es.length):fitL (es.drop l.length) (l.drop l.length) = 0:=by
  rw [h,List.drop_length];rfl
end Lum
namespace Go.Proofs.YtmjkenlifgmeeaaGreatDoor
open Go.RowKit Go.Shelf Lum
open Go.Lib (decDigits itoa)
attribute [local go_sem] bs_get bs_extract_end bs_extract_from bs_extract bs_append
end Go.Proofs.YtmjkenlifgmeeaaGreatDoor
