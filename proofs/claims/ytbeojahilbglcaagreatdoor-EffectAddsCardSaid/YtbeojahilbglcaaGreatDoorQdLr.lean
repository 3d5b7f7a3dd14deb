/-
  
-/
import Derived.Test.YtbeojahilbglcaaGreatDoorQdYs
import Derived.Test.YtbeojahilbglcaaGreatDoorQdYi
import Derived.Laws.AppendOwnNone
import Derived.Outline
import Derived.Lib.SliceRun
import Derived.WalkSpells
import Derived.Laws.AppendOwn
import Derived.Deep.RegionHeld3
set_option linter.unusedVariables false
set_option linter.unusedSimpArgs false
namespace Lum
open Go Go.RowKit Go.Shelf
open Go.Lib (decDigits itoa)
def SlOk (v:Value):Prop:=∃ p n c,v = .slice p n c ∧ n ≤ c ∧ (p = none → c = 0)
end Lum
namespace Go.Proofs.YtbeojahilbglcaaGreatDoor
open Go.RowKit Go.Shelf Lum
open Go.Lib (decDigits itoa)
attribute [local go_sem] bs_get bs_extract_end bs_extract_from bs_extract bs_append
end Go.Proofs.YtbeojahilbglcaaGreatDoor
set_option maxRecDepth 100000
set_option maxHeartbeats 8000000
namespace Lum
open Go Go.RowKit Go.Shelf
open Go.Lib (decDigits itoa)
theorem step_append_run {P : Program} {ops : Array Oper} {o : Oper} {a : Act} {w : World} {K : Act → World → Prop} {Q : Exit → Act → World → Prop} {E : Prop}
    (hg:o.guard = none) (s x:Operand) (t:TypeId) (hop:o.op = Op.call { callee:=Callee.builtin Builtin.append,args:=#[s,x],argTypes:=#[t,t] })
    (v u:Value) (hs:a.eval s = v) (hx:a.eval x = u) {v':Value} {w':World} (hr:(Builtin.append_ #[t,t] o.type #[v,u]).run P w = .ok v' w') (hK:K (a.put o.dst v') w') :
    if Region.wanted o (yielded ops a.tmps) = true then Oper.wp P o a w K Q else E:=by
  have hw:Region.wanted o (yielded ops a.tmps) = true:=by simp [Region.wanted,hg]
  rw [if_pos hw]
  unfold Oper.wp execOp
  simp only [hop,resolve,invoke,builtin,Sem.run_bind,Sem.run_pure,Result.andThen_ok,List.map_toArray,List.map_cons,List.map_nil,hs,hx,hr]
  exact hK
def delL {α:Type} (l:List α) (i:Nat):List α:=l.take i ++ l.drop (i + 1)
theorem delL_len {α:Type} {l:List α} {i:Nat} (h:i < l.length):(delL l i).length = i + (l.length - (i + 1)):=by unfold delL;rw [List.length_append,List.length_take,List.length_drop,Nat.min_eq_left (by omega)]
theorem delL_map {α β:Type} (f:α → β) (l:List α) (i:Nat):(delL l i).map f = delL (l.map f) i:=by unfold delL;rw [List.map_append,List.map_take,List.map_drop]
theorem delL_filter {R:List Rnx} {n:Int} {i:Nat} (hb:Belongs (keyAt (·.ef) R) R.length n i true):delL R i = R.filter (fun x => x.ef != n):=by
  obtain ⟨hi,hk⟩:=hb.yes rfl
  have hn:∀ j (hj:j < R.length),j ≠ i → ((R[j]'hj).ef != n) = true:=fun j hj g => by
    rw [bne_iff_ne,← keyAt_at (key:=fun x:Rnx => x.ef) hj]
    rcases Nat.lt_or_gt_of_ne g with g | g
    · have:=hb.bef j g;omega
    · have:=hb.aft j g hj;omega
  unfold delL
  conv => rhs;rw [← List.take_append_drop i R,List.drop_eq_getElem_cons hi,List.filter_append,List.filter_cons,if_neg (by rw [← keyAt_at (key:=fun x:Rnx => x.ef) hi,hk];simp)]
  rw [filter_all,filter_all]
  · intro y hy;obtain ⟨j,hj,h1,rfl⟩:=mem_drop_at hy;exact hn j hj (by omega)
  · intro y hy;obtain ⟨j,hj,h1,rfl⟩:=mem_take_at hy;exact hn j hj (by omega)
theorem miss_filter {R:List Rnx} {n:Int} (h:∀ j,j < R.length → keyAt (·.ef) R j ≠ n):R.filter (fun x => x.ef != n) = R:=filter_all fun x hx => by
  obtain ⟨j,hj,rfl⟩:=List.getElem_of_mem hx
  rw [bne_iff_ne,← keyAt_at (key:=fun x:Rnx => x.ef) hj];exact h j hj
def StpR (R:List Rnx) (n E:Int) (w:World) (e:Ending) (w':World):Prop:=∃ v,e = .returned (.tuple #[v,.bool (decide (E = 0) && (R.find? (fun x => x.ef == n)).isSome),.int .i64 E]) ∧ (E = 0 → RunsAt w' v (R.filter (fun x => x.ef != n))) ∧ (¬ E = 0 → v = .slice none 0 0) ∧ Below w.heap.size w w'
theorem hasC_del {W:World} {L:List (Rnx × Sl3)} {i:Nat} (h:HasC W L):HasC W (delL L i):=fun y hy => by
  unfold delL at hy
  rcases List.mem_append.1 hy with h1 | h1
  · exact h y (List.mem_of_mem_take h1)
  · exact h y (List.mem_of_mem_drop h1)
theorem OwnR.of_del {β : Type} {enc : β → List Value} {k base : Nat} {e : TypeId} {W : World} {g c i q : Nat} {cur : Array Value} {l : List β} (hk : ∀ x, (enc x).length = k) (hi : i < l.length) (hq : q = i + (l.length - (i + 1))) (hb : base ≤ g) (hc : l.length ≤ c) (hm : c ≤ maxLen) (hs : cur.size = c * k) (ht : cur.toList.take (l.length * k) = l.flatMap enc)
    (zs:List Value) (hz:zs.length = (l.length - q) * k) (h:Blk W g e (rowC (rowC cur (i * k) ((l.drop (i + 1)).flatMap enc)) (q * k) zs)):OwnR enc k base e W (some ⟨g,0,none⟩) c (delL l i):=by
  have hlA:((l.take i).flatMap enc).length = i * k:=by rw [flat_len hk,List.length_take,Nat.min_eq_left (by omega)]
  have hlD:((l.drop (i + 1)).flatMap enc).length = (l.length - (i + 1)) * k:=by rw [flat_len hk,List.length_drop]
  have hck:l.length * k ≤ c * k:=Nat.mul_le_mul_right _ hc
  have hqk:q * k = i * k + (l.length - (i + 1)) * k:=by rw [hq,Nat.add_mul]
  have hql:q * k + (l.length - q) * k = l.length * k:=by rw [← Nat.add_mul];congr 1;omega
  have hil:i * k ≤ l.length * k:=Nat.mul_le_mul_right _ (by omega)
  have h1:(rowC cur (i * k) ((l.drop (i + 1)).flatMap enc)).size = cur.size:=rowC_size (by rw [hlD];omega)
  refine OwnR.of_blk hk h hb (by rw [delL_len hi];omega) hm (by rw [rowC_size (by rw [h1,hz];omega),h1];exact hs) ?_
  have hA:cur.toList.take (i * k) = (l.take i).flatMap enc:=by
    have:=congrArg (List.take (i * k)) ht
    rw [List.take_take,Nat.min_eq_left hil] at this
    rw [this]
    conv => lhs;rw [← List.take_append_drop i l,List.flatMap_append]
    exact List.take_left' hlA
  have e0:(rowC cur (i * k) ((l.drop (i + 1)).flatMap enc)).toList.take (q * k) = (delL l i).flatMap enc:=by
    unfold rowC delL
    rw [List.flatMap_append,hA,hqk]
    exact List.take_left' (by rw [List.length_append,hlA,hlD])
  rw [delL_len hi,← hq]
  show (rowC (rowC cur (i * k) ((l.drop (i + 1)).flatMap enc)) (q * k) zs).toList.take (q * k) = _
  rw [← e0]
  generalize rowC cur (i * k) ((l.drop (i + 1)).flatMap enc) = c1 at *
  unfold rowC
  have hl:(c1.toList.take (q * k)).length = q * k:=by rw [List.length_take,Array.length_toList];omega
  show List.take (q * k) (List.take (q * k) c1.toList ++ zs ++ List.drop (q * k + zs.length) c1.toList) = _
  rw [List.append_assoc]
  exact List.take_left' hl
end Lum
namespace Go.Proofs.YtbeojahilbglcaaGreatDoor
open Go.RowKit Go.Shelf Lum
open Go.Lib (decDigits itoa)
attribute [local go_sem] bs_get bs_extract_end bs_extract_from bs_extract bs_append
theorem own_ndelete (l : List RnT) (w : World) (pp : Option Addr) (cc base i : Nat) (hO : OwnR encN 6 base 68 w pp cc l) (hi9 : i < l.length) (hn : l.length ≤ 1000000) :
    Calls Tryz.prog 44 #[.slice pp l.length cc,.int .i64 (i:Int),.int .i64 ((i:Int) + 1)] w fun e w' => ∃ pp' cc',e = .returned (.slice pp' (delL l i).length cc') ∧ OwnR encN 6 base 68 w' pp' cc' (delL l i) ∧ Below base w w':=by
  obtain ⟨i0,hi,hz0,hz1,hz2⟩:=info_parts info_run
  obtain ⟨g,cur,rfl,hg,hgb,hc1,hc2,hc3,hc4⟩:=hO.to_blk (fun h => by subst h;simp at hi9)
  have hcb:(cc:Int) ≤ 9223372036854775807:=by unfold maxLen at hc2;omega
  have HGB:=Lib.hid hg;have HC1:=Lib.hid hc1;have HC2:=Lib.hid hc2;have HCS:=Lib.hid hc3;have HT:=Lib.hid hc4;clear hg hc2 hc3 hc4 hO
  have HND:Hid (((l.drop (i + 1)).flatMap encN).length = (l.length - (i + 1)) * 6):=Lib.hid (by rw [flat_len encN_len,List.length_drop])
  have HCE:Hid (∀ j u,(l.flatMap encN)[j]? = some u → w.drew.cell? ⟨g,j,none⟩ = some u):=Lib.hid (fun j u h => by rw [← HT.out,List.getElem?_take] at h;split at h;(rw [show w.drew.cell? ⟨g,j,none⟩ = cur[j]? from hgb.drew.cell j];simpa using h);cases h)
  obtain ⟨q,hq⟩:∃ q,q = i + (l.length - (i + 1)):=⟨_,rfl⟩
  have HQ:Hid (i + (l.length - (i + 1)) = q):=Lib.hid hq.symm
  have hi0:(0:Int) ≤ (i:Int):=by omega
  have hi1:(i:Int) ≤ (i:Int) + 1:=by omega
  have hi2:(i:Int) + 1 ≤ (l.length:Int):=by omega
  have hi4:(l.length:Int) ≤ (cc:Int):=by omega
  have hi3:(i:Int) ≤ (cc:Int):=by omega
  have hb1:(0:Int) ≤ (i:Int) + 1:=by omega
  have htn:((i:Int) + 1).toNat = i + 1:=by omega
  have hne:((i:Int) == (i:Int) + 1) = false:=by rw [beq_eq_false_iff_ne];omega
  have hcz:¬ cc = 0:=by omega
  by_cases hci:cc = i + 1
  · have HSR:Hid (∀ j u,((l.drop (i + 1)).flatMap encN)[j]? = some u → w.drew.cell? ⟨g,0 + j,none⟩ = some u):=Lib.hid (fun j u hu => by rw [List.drop_eq_nil_of_le (by omega)] at hu;simp at hu)
    obtain ⟨W2,hr,hb2,hbl⟩:∃ W2,(∀ ty,(Builtin.append_ #[22,22] ty #[.slice (some ⟨g,0,none⟩) i cc,.slice (some ⟨g,0,none⟩) (l.length - (i + 1)) (cc - (i + 1))]).run Tryz.prog w.drew = .ok (.slice (some ⟨g,0,none⟩) q cc) W2) ∧ Blk W2 g 68 (rowC cur (i * 6) ((l.drop (i + 1)).flatMap encN)) ∧ ∀ B,B ≤ g → Below B w W2:=by
      have h6:i0.size = 6:=hz1
      refine ⟨_,fun ty => ?_,setRow_heap w.drew g cur _ 68 _ hgb.drew,fun B hB => below_setRow (Below.refl B w).drew hB _⟩
      have h:=run_append_room (P:=Tryz.prog) (w:=w.drew) 22 ty 68 i0 Tryz.underlying22 hi g i cc cur hgb.drew ⟨g,0,none⟩ (l.length - (i + 1)) (cc - (i + 1)) ((l.drop (i + 1)).flatMap encN) (by rw [h6];exact HND.out) (fun j u hu => by rw [addr_add];exact HSR.out j u hu) (fun v hv => by obtain ⟨y,hy,hu⟩:=List.mem_flatMap.1 hv;exact encN_one y v hu) (by omega) (by rw [h6,HND.out,HCS.out];omega)
      rw [h6] at h
      rw [h,HQ.out]
      rfl
    have HR:=Lib.hid hr;have HB2:=Lib.hid hb2;have HBL:=Lib.hid hbl;clear hr hb2 hbl
    obtain ⟨W3,cs,hclr,hcl,hbk3,hbl3⟩:=clearK (P:=Tryz.prog) W2 22 68 (.agg #[.int .i64 0,.slice none 0 0,.int .i64 0,.int .i64 0,.int .i64 0,.int .i64 0]) 6 g (q * 6) (l.length - q) (cc - q) (rowC cur (i * 6) ((l.drop (i + 1)).flatMap encN)) Tryz.underlying22 (fun _ => by kernel_rfl) rfl (by decide) HB2.out (by omega) (by rw [rowC_size (by rw [HND.out,HCS.out];omega),HCS.out];omega)
    have HFI:Hid (OwnR encN 6 base 68 W3 (some ⟨g,0,none⟩) cc (delL l i)):=Lib.hid (OwnR.of_del encN_len hi9 HQ.out.symm HGB.out HC1.out HC2.out HCS.out HT.out cs hcl hbk3)
    have HCL:=Lib.hid hclr;have HB4:Hid (Below base w W3):=Lib.hid ((HBL.out base HGB.out).trans (hbl3 base HGB.out))
    clear hclr hcl hbk3 hbl3
    have HQ2:Hid ((delL l i).length = q):=Lib.hid ((delL_len hi9).trans HQ.out)
    clear hgb
    rw [hci] at HCL HFI
    have hqc:¬ cc = q:=by omega
    have hq0:(0:Int) ≤ (q:Int):=by omega
    have hql:(q:Int) ≤ (l.length:Int):=by omega
    have hil:¬ l.length = i:=by omega
    clear hq
    go_enter Tryz.func44,Tryz.ntmps44
    go_upto_region 5 with fail
    go_region_law (refine step_append_run rfl (.tmp 22) (.tmp 25) 22 rfl _ _ (by simp [Act.eval,Act.put,hci]) (by simp [Act.eval,Act.put,hci]) (HR.out _) ?_)
    go_wp2_with (first | (with_reducible refine wpList_clear_run _ rfl (.tmp 31) 22 rfl _ rfl (HCL.out _) ?_))
    go_ret
    rw [← HQ2.out]
    exact ⟨_,_,rfl,HFI.out,HB4.out⟩
  · have HSR:Hid (∀ j u,((l.drop (i + 1)).flatMap encN)[j]? = some u → w.drew.cell? ⟨g,(i + 1) * 6 + j,none⟩ = some u):=Lib.hid (fun j u hu => by have h9:=HCE.out _ u (flat_drop_get encN_len hu);exact h9)
    obtain ⟨W2,hr,hb2,hbl⟩:∃ W2,(∀ ty,(Builtin.append_ #[22,22] ty #[.slice (some ⟨g,0,none⟩) i cc,.slice (some ⟨g,(i + 1) * 6,none⟩) (l.length - (i + 1)) (cc - (i + 1))]).run Tryz.prog w.drew = .ok (.slice (some ⟨g,0,none⟩) q cc) W2) ∧ Blk W2 g 68 (rowC cur (i * 6) ((l.drop (i + 1)).flatMap encN)) ∧ ∀ B,B ≤ g → Below B w W2:=by
      have h6:i0.size = 6:=hz1
      refine ⟨_,fun ty => ?_,setRow_heap w.drew g cur _ 68 _ hgb.drew,fun B hB => below_setRow (Below.refl B w).drew hB _⟩
      have h:=run_append_room (P:=Tryz.prog) (w:=w.drew) 22 ty 68 i0 Tryz.underlying22 hi g i cc cur hgb.drew ⟨g,(i + 1) * 6,none⟩ (l.length - (i + 1)) (cc - (i + 1)) ((l.drop (i + 1)).flatMap encN) (by rw [h6];exact HND.out) (fun j u hu => by rw [addr_add];exact HSR.out j u hu) (fun v hv => by obtain ⟨y,hy,hu⟩:=List.mem_flatMap.1 hv;exact encN_one y v hu) (by omega) (by rw [h6,HND.out,HCS.out];omega)
      rw [h6] at h
      rw [h,HQ.out]
      rfl
    have HR:=Lib.hid hr;have HB2:=Lib.hid hb2;have HBL:=Lib.hid hbl;clear hr hb2 hbl
    obtain ⟨W3,cs,hclr,hcl,hbk3,hbl3⟩:=clearK (P:=Tryz.prog) W2 22 68 (.agg #[.int .i64 0,.slice none 0 0,.int .i64 0,.int .i64 0,.int .i64 0,.int .i64 0]) 6 g (q * 6) (l.length - q) (cc - q) (rowC cur (i * 6) ((l.drop (i + 1)).flatMap encN)) Tryz.underlying22 (fun _ => by kernel_rfl) rfl (by decide) HB2.out (by omega) (by rw [rowC_size (by rw [HND.out,HCS.out];omega),HCS.out];omega)
    have HFI:Hid (OwnR encN 6 base 68 W3 (some ⟨g,0,none⟩) cc (delL l i)):=Lib.hid (OwnR.of_del encN_len hi9 HQ.out.symm HGB.out HC1.out HC2.out HCS.out HT.out cs hcl hbk3)
    have HCL:=Lib.hid hclr;have HB4:Hid (Below base w W3):=Lib.hid ((HBL.out base HGB.out).trans (hbl3 base HGB.out))
    clear hclr hcl hbk3 hbl3
    have HQ2:Hid ((delL l i).length = q):=Lib.hid ((delL_len hi9).trans HQ.out)
    clear hgb
    have hqc:¬ cc = q:=by omega
    have hq0:(0:Int) ≤ (q:Int):=by omega
    have hql:(q:Int) ≤ (l.length:Int):=by omega
    have hil:¬ l.length = i:=by omega
    clear hq
    go_enter Tryz.func44,Tryz.ntmps44
    go_upto_region 5 with fail
    go_region_law (refine step_append_run rfl (.tmp 22) (.tmp 25) 22 rfl _ _ (by simp [Act.eval,Act.put,hci]) (by simp [Act.eval,Act.put,hci]) (HR.out _) ?_)
    go_wp2_with (first | (with_reducible refine wpList_clear_run _ rfl (.tmp 31) 22 rfl _ rfl (HCL.out _) ?_))
    go_ret
    rw [← HQ2.out]
    exact ⟨_,_,rfl,HFI.out,HB4.out⟩
theorem own_estop (R : List Rnx) (u : Value) (n : Int) (w : World) (hr : RunsAt w u R) (n0 : -9223372036854775808 ≤ n) (n1 : n ≤ 9223372036854775807) :
    Calls Tryz.prog 15 #[u,.int .i64 n] w (StpR R n (rnsE R) w):=by
  have hru:=fun W (h:RunsAt W u R) => own_eruns R u W h
  change ∀ W,RunsAt W u R → Calls _ _ _ _ (fun e w' => e = .returned (.int .i64 (rnsE R)) ∧ _) at hru
  have HN:=Lib.hid hr
  have HB:=Lib.hid (Below.refl w.heap.size w)
  by_cases hz:rnsE R = 0
  · have hok:=ordOk (show ordE rnE (·.ef) R = 0 from hz)
    obtain ⟨i,hit,hq⟩:=belongs_key hok n
    cases hit with
    | false =>
      have hfi:=fun W (h:RunsAt W u R) => (show Calls Tryz.prog 40 #[u,.int .i64 n,.func (.func 38) #[] #[]] W fun e w' => ∃ i:Nat,e = .returned (.tuple #[.int .i64 (i:Int),.bool false]) ∧ Below W.heap.size W w' from by
        obtain ⟨M,p,c,rfl,hM,hRX,-⟩:=h
        exact own_find_run_no n R M p c W hM hRX hok n0 n1 hq.miss)
      rw [hz] at hru ⊢
      have HQ:Hid ((R.find? (fun x => x.ef == n)).isSome = false):=Lib.hid (by rw [find_miss hq.miss];rfl)
      have HF:=Lib.hid (miss_filter hq.miss)
      clear hz hr hok hq
      have HRU:=Lib.hid hru;clear hru
      have HFI:=Lib.hid hfi;clear hfi
      go_enter Tryz.func15,Tryz.ntmps15
      go_wp2_with (first | (with_reducible refine ((HRU.out _ HN.out).mono ?_);rintro e w' ⟨rfl,hb⟩;replace HN:=Lib.hid (RunsAt.kept HN.out hb);replace HB:=Lib.hid (bch' HB.out hb);clear hb) | (with_reducible refine ((HFI.out _ HN.out).mono ?_);rintro e w' ⟨i,rfl,hb⟩;replace HN:=Lib.hid (RunsAt.kept HN.out hb);replace HB:=Lib.hid (bch' HB.out hb);clear hb))
      go_ret3
      exact ⟨_,by rw [HQ.out];rfl,fun _ => by rw [HF.out];exact HN.out,fun h => absurd rfl h,HB.out⟩
    | true =>
      have hb9:=hq
      have hil0:=(hb9.yes rfl).1
      have hn:1 ≤ n ∧ n ≤ 1048576:=by have:=(hb9.yes rfl).2;have:=rns_key hok i hil0;omega
      have hfi:=fun W (h:RunsAt W u R) => (show Calls Tryz.prog 40 #[u,.int .i64 n,.func (.func 38) #[] #[]] W fun e w' => e = .returned (.tuple #[.int .i64 (i:Int),.bool true]) ∧ Below W.heap.size W w' from by
        obtain ⟨M,p,c,rfl,hM,hRX,-⟩:=h
        exact own_find_run_at n R M p c W hM hRX hok hn i true hb9)
      have hfew:=hok.few
      obtain ⟨M,pm,cm,rfl,hM,hMR,hMC⟩:=hr
      have hil:i < M.length:=by rw [← hM,List.length_map] at hil0;exact hil0
      have hml:M.length ≤ 1000000:=by rw [← hM,List.length_map] at hfew;omega
      have hcl:=fun W (h:RowX encN 6 W pm M) => own_nclone W M pm cm h hml
      have hde:=fun W (p:Option Addr) (c base:Nat) (h:OwnR encN 6 base 68 W p c M) => own_ndelete M W p c base i h hil hml
      have HRX:Hid (∀ W,Below w.heap.size w W → RowX encN 6 W pm M):=Lib.hid fun W h => hMR.kept h
      have HMC:Hid (∀ W,Below w.heap.size w W → HasC W M):=Lib.hid fun W h => hMC.kept h
      have HML:Hid ((delL M i).map (·.1) = R.filter (fun x => x.ef != n)):=Lib.hid (by rw [delL_map,hM];exact delL_filter hb9)
      have HQ:Hid ((R.find? (fun x => x.ef == n)).isSome = true):=Lib.hid (by rw [hq.find];rfl)
      have hw1:IntKind.i64.wrap ((i:Int) + 1) = (i:Int) + 1:=IntWalk.i64_in _ (by omega)
      rw [hz] at hru ⊢
      clear hz hM hMR hMC hok hq hfew hb9 hil0 hn
      have HRU:=Lib.hid hru;clear hru
      have HFI:=Lib.hid hfi;clear hfi
      have HCL:=Lib.hid hcl;clear hcl
      have HDE:=Lib.hid hde;clear hde
      go_enter Tryz.func15,Tryz.ntmps15
      go_wp2_with (first | (with_reducible refine ((HRU.out _ HN.out).mono ?_);rintro e w' ⟨rfl,hb⟩;replace HN:=Lib.hid (RunsAt.kept HN.out hb);replace HB:=Lib.hid (bch' HB.out hb);clear hb) | (with_reducible refine ((HFI.out _ HN.out).mono ?_);rintro e w' ⟨rfl,hb⟩;replace HN:=Lib.hid (RunsAt.kept HN.out hb);replace HB:=Lib.hid (bch' HB.out hb);clear hb) | (with_reducible refine ((HCL.out _ (HRX.out _ HB.out)).mono ?_);rintro e w3 ⟨p1,c1,rfl,ho,hb⟩;have HO:=Lib.hid ho;have HSZ:=Lib.hid HB.out.size;clear ho;replace HN:=Lib.hid (RunsAt.kept HN.out hb);replace HB:=Lib.hid (bch' HB.out hb);clear hb) | (with_reducible refine ((HDE.out _ _ _ _ HO.out).mono ?_);rintro e w4 ⟨p2,c2,rfl,ho,hb⟩;have HO2:=Lib.hid ho;clear ho;clear HN;replace HB:=Lib.hid (HB.out.trans (hb.mono HSZ.out));clear hb))
      go_ret3
      exact ⟨_,by rw [HQ.out];rfl,fun _ => runsAt_of HO2.out HML.out (hasC_del (HMC.out _ HB.out)),fun h => absurd rfl h,HB.out⟩
  · have HE:Hid (¬ rnsE R = 0):=Lib.hid hz
    have hne:((rnsE R:Int) != 0) = true:=by simpa using hz
    clear hz hr
    generalize rnsE R = m at *
    have HRU:=Lib.hid hru;clear hru
    go_enter Tryz.func15,Tryz.ntmps15
    go_wp2_with (first | (with_reducible refine ((HRU.out _ HN.out).mono ?_);rintro e w' ⟨rfl,hb⟩;replace HN:=Lib.hid (RunsAt.kept HN.out hb);replace HB:=Lib.hid (bch' HB.out hb);clear hb))
    go_ret3
    exact ⟨_,by rw [decide_eq_false HE.out];rfl,fun h => absurd h HE.out,fun _ => rfl,HB.out⟩
end Go.Proofs.YtbeojahilbglcaaGreatDoor
namespace Go.Proofs.YtbeojahilbglcaaGreatDoor
open Go.RowKit Go.Shelf Lum
open Go.Lib (decDigits itoa)
attribute [local go_sem] bs_get bs_extract_end bs_extract_from bs_extract bs_append
end Go.Proofs.YtbeojahilbglcaaGreatDoor
