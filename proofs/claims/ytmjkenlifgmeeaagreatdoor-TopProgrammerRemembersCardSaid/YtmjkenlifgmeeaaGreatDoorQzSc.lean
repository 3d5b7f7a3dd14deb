import Derived.Test.YtmjkenlifgmeeaaGreatDoorQzSx
import Derived.Test.YtmjkenlifgmeeaaGreatDoorQzYa
import Derived.Lib.SliceRun
import Derived.WalkSpells
import Derived.Lib.Overlaps
import Derived.Laws.Externs
set_option maxRecDepth 100000
set_option maxHeartbeats 4000000
set_option linter.unusedVariables false
set_option linter.unusedSimpArgs false
namespace Lum
open Go Go.RowKit Go.Shelf
open Go.Lib (decDigits itoa)
def encF (x:Fdr):List Value:=[.int .i64 x.su,.string ⟨(x.fr).toArray⟩,.int .i64 x.tz,.int .i64 x.st,.int .i64 x.ti,.int .i64 x.stp]
theorem encF_len (x:Fdr):(encF x).length = 6:=rfl
theorem encF_one (x:Fdr):∀ u ∈ encF x,u.oneCell' = true:=by
  intro u hu
  simp only [encF,List.mem_cons,List.not_mem_nil,or_false] at hu
  rcases hu with rfl | rfl | rfl | rfl | rfl | rfl <;> rfl
theorem FdsC.flat {W:World} {b o:Nat} {l:List Fdr} (h:FdsC W b o l):∀ (j:Nat) (u:Value),(l.flatMap encF)[j]? = some u → W.cell? ⟨b,o + j,none⟩ = some u:=by
  refine flat_cell encF_len l (fun j => W.cell? ⟨b,o + j,none⟩) (fun i hi j v hv => ?_)
  obtain ⟨h1,h2,h3,h4,h5,h6⟩:=h i hi
  rw [fdv_at hi] at hv
  have hj:j < 6:=(List.getElem?_eq_some_iff.1 hv).1
  show W.cell? ⟨b,o + (i * 6 + j),none⟩ = some v
  rw [← Nat.add_assoc]
  match j,hj with
  | 0,_ => rw [← Option.some.inj hv];exact h1
  | 1,_ => rw [← Option.some.inj hv];exact h2
  | 2,_ => rw [← Option.some.inj hv];exact h3
  | 3,_ => rw [← Option.some.inj hv];exact h4
  | 4,_ => rw [← Option.some.inj hv];exact h5
  | 5,_ => rw [← Option.some.inj hv];exact h6
theorem OwnR.fds {base:Nat} {e:TypeId} {W:World} {p:Option Addr} {c:Nat} {l:List Fdr} (h:OwnR encF 6 base e W p c l):FdsAt W (.slice p l.length c) l:=by
  refine ⟨p,c,rfl,h.cap,fun hn => ?_⟩
  obtain ⟨b,hp,hb,hc⟩:=h.at_ encF_len hn
  refine ⟨b,0,hp,hb,fun i hi => ?_⟩
  rw [← fdv_at hi]
  have hx:=hc i hi
  exact ⟨hx 0 _ rfl,hx 1 _ rfl,hx 2 _ rfl,hx 3 _ rfl,hx 4 _ rfl,hx 5 _ rfl⟩
end Lum
namespace Go.Proofs.YtmjkenlifgmeeaaGreatDoor
open Go.RowKit Go.Shelf Lum
open Go.Lib (decDigits itoa)
attribute [local go_sem] bs_get bs_extract_end bs_extract_from bs_extract bs_append
theorem info_fader:(Tryz.prog.info? 95).map (fun i => (i.zero,i.size,i.bytes)) = some (some (.agg #[.int .i64 0,.string ⟨#[]⟩,.int .i64 0,.int .i64 0,.int .i64 0,.int .i64 0]),6,56):=by kernel_rfl
theorem own_fclone (l : List Fdr) (v : Value) (w : World) (hv : FdsAt w v l) (hn : l.length ≤ 1000000) :
    Calls Tryz.prog 43 #[v] w fun e w' => ∃ pp cc,e = .returned (.slice pp l.length cc) ∧ OwnR encF 6 w.heap.size 95 w' pp cc l ∧ Below w.heap.size w w':=by
  obtain ⟨p,c,rfl,hcc,hv1⟩:=hv
  have hq:∀ (w:World) (a:Option Addr) (n c n2 c2:Nat),(binOp .eql 58 (.slice a n c) (.slice none n2 c2)).run Tryz.prog w = .ok (.bool a.isNone) w:=fun w a n c n2 c2 => Lib.run_eql_slice_nil w _ _ a n c n2 c2 Tryz.underlying58
  obtain ⟨i0,hi,hz0,hz1,hz2⟩:=info_parts info_fader
  have HN:=Lib.hid hn;clear hn
  cases p with
  | none =>
    have h0:l = []:=by
      by_cases h:l = []
      · exact h
      · obtain ⟨b,o,e,-⟩:=hv1 h;cases e
    clear hv1
    subst h0
    dsimp only [List.length_nil]
    go_enter Tryz.func43,Tryz.ntmps43
    go_wp2_with fail
    go_ret
    exact ⟨none,0,rfl,OwnR.nil _ _ _,Below.refl _ _⟩
  | some ad =>
    by_cases hl0:l = []
    · subst hl0
      clear hv1
      have HA:Hid (∀ (j:Nat) (u:Value),(([]:List Fdr).flatMap encF)[j]? = some u → w.cell? (ad.add j) = some u):=Lib.hid (fun j u h => by simp at h)
      dsimp only [List.length_nil]
      go_enter Tryz.func43,Tryz.ntmps43
      go_wp2_with fail
      go_ret
      exact ⟨_,_,rfl,OwnR.made w 95,(Below.refl w.heap.size w).alloc (Nat.le_refl _) _⟩
    obtain ⟨b,off,had,-,hC⟩:=hv1 hl0
    obtain rfl:=Option.some.inj had
    have HA:=Lib.hid (FdsC.flat hC)
    clear hv1 hC
    go_enter Tryz.func43,Tryz.ntmps43
    go_wp2_with (first | (at_builtin;refine wpList_appL rfl _ _ 58 rfl w.heap.size 95 i0 (.agg #[.int .i64 0,.string ⟨#[]⟩,.int .i64 0,.int .i64 0,.int .i64 0,.int .i64 0]) 56 Tryz.underlying58 hi hz0 hz1 hz2 rfl (by decide) (by decide) (some ⟨w.heap.size,0,none⟩) 0 0 [] rfl _ l b off c encF_len (fun j u hu => Lib.cell?_alloc_some _ (HA.out j u hu)) (fun y _ => encF_one y) rfl (OwnR.made w 95) rfl (by have:=HN.out;simp;omega) (by simp) ?_;intro p1 c1 w3 hO3 hb3;have HO3:=Lib.hid hO3;have HB3:=Lib.hid hb3;clear hO3 hb3))
    go_ret
    refine ⟨p1,c1,by simp,by simpa using HO3.out,?_⟩
    exact ((Below.refl w.heap.size w).alloc (Nat.le_refl _) _).trans HB3.out
theorem own_finsert_grow (l : List Fdr) (w : World) (x : Fdr) (g b base i : Nat) (cur : Array Value) (hcur : Blk w g 95 cur) (ht : cur.toList.take (l.length * 6) = l.flatMap encF) (hx : Blk w b 95 (encF x).toArray) (hi9 : i < l.length) (hn : l.length ≤ 1000000) (hbase : base ≤ w.heap.size) :
    Calls Tryz.prog 44 #[.slice (some ⟨g,0,none⟩) l.length l.length,.int .i64 (i:Int),.slice (some ⟨b,0,none⟩) 1 1] w fun e w' => ∃ p' c',e = .returned (.slice p' (l.length + 1) c') ∧ OwnR encF 6 base 95 w' p' c' (insL l i false x) ∧ Below base w w':=by
  have hcs:∀ j u,(l.flatMap encF)[j]? = some u → w.cell? ⟨g,j,none⟩ = some u:=fun j u h => by rw [← ht,List.getElem?_take] at h;split at h;(rw [hcur.cell];simpa using h);cases h
  obtain ⟨i0,hi,hz0,hz1,hz2⟩:=info_parts info_fader
  have hsz6:(Tryz.prog.info? 95).map (·.size) = some 6:=by rw [hi];simp [hz1]
  have hlt:=hcur.lt
  have hbl:=hx.lt
  have hA:∀ j v,((l.take i).flatMap encF)[j]? = some v → w.cell? ((⟨g,0,none⟩:Addr).add j) = some v:=fun j v h => by rw [addr_add,Nat.zero_add];exact hcs j v (flat_take_get h)
  have hD:∀ j v,((l.drop i).flatMap encF)[j]? = some v → w.cell? ((⟨g,i * 6,none⟩:Addr).add j) = some v:=fun j v h => by rw [addr_add];exact hcs _ v (flat_drop_get encF_len h)
  have hlA:((l.take i).flatMap encF).length = i * 6:=by rw [flat_len encF_len,List.length_take,Nat.min_eq_left (by omega)]
  have hlD:((l.drop i).flatMap encF).length = (l.length - i) * 6:=by rw [flat_len encF_len,List.length_drop]
  have HCS:=Lib.hid hcs;have HA:=Lib.hid hA;have HD:=Lib.hid hD;have HLA:=Lib.hid hlA;have HLD:=Lib.hid hlD;have HX:=Lib.hid hx;clear hcs hA hD hlA hlD hx hcur ht
  have HN:=Lib.hid hn;have HBS:=Lib.hid hbase;clear hbase
  have hq3:(l.length:Int) < (l.length:Int) + 1:=by omega
  have hq2:((i:Int) == (l.length:Int)) = false:=by simp;omega
  have hci:¬ (l.length = i):=by omega
  have hi0:(0:Int) ≤ (i:Int):=by omega
  have hi1:(i:Int) ≤ (l.length:Int):=by omega
  go_enter Tryz.func44,Tryz.ntmps44
  go_wp2_with (first | (at_builtin;(refine wpList_appZ (k:=6) rfl (.tmp 34) (.tmp 39) 58 3 rfl 95 i0 (.agg #[.int .i64 0,.string ⟨#[]⟩,.int .i64 0,.int .i64 0,.int .i64 0,.int .i64 0]) 56 Tryz.underlying58 Tryz.underlying3 hi hz0 hz1 hz2 rfl (by decide) (by decide) w ⟨g,0,none⟩ i l.length ((l.take i).flatMap encF) HLA.out HA.out (l.length + 1 - i) (by omega) (by omega) (by omega) ((l.length:Int) + 1 - (i:Int)) (by omega) (l.length + 1) (by omega) rfl rfl ?_;intro G cs w1 hG hGm hGs hGt hgk hgb;have HGS:=Lib.hid hGs;have HGT:=Lib.hid hGt;have HGK:=Lib.hid hgk;have HGB:=Lib.hid hgb;clear hGs hGt hgk hgb)) | (refine wpList_copyK rfl (.tmp 43) (.tmp 44) 58 58 rfl 95 6 Tryz.underlying58 hsz6 w.heap.size (i * 6) (l.length + 1 - i) (G - i) ⟨b,0,none⟩ (1) (1) rfl rfl cs HGK.out (encF x) (by rw [encF_len];have:Nat.min 1 (l.length + 1 - i) = 1:=Nat.min_eq_left (by omega);rw [this]) (fun j v hj => by rw [addr_add,Nat.zero_add,(HX.out.keep HGB.out).cell];simpa using hj) (by rw [encF_len,HGS.out];omega) (encF_one x) ?_;intro w2 h2 hb2 ho2;have H2:=Lib.hid h2;have HB2:=Lib.hid hb2;have HO2:=Lib.hid ho2;clear h2 hb2 ho2))
  have hs1:((l.drop i).flatMap encF).length = Nat.min (l.length - i) (l.length + 1 - (i + 1)) * 6:=by rw [HLD.out,show Nat.min (l.length - i) (l.length + 1 - (i + 1)) = l.length - i from Nat.min_eq_left (by omega)]
  have hs2:∀ j v,((l.drop i).flatMap encF)[j]? = some v → w2.drew.cell? ((⟨g,i * 6,none⟩:Addr).add j) = some v:=fun j v hj => by rw [addr_add];refine (World.cell?_of_block (w:=w) (w':=w2.drew) (a:=⟨g,i * 6 + j,none⟩) ?_).trans ?_;exact (HO2.out g (Nat.ne_of_lt hlt)).trans (HGB.out.block g hlt);have h1:=HD.out j v hj;rw [addr_add] at h1;exact h1
  have hs3:(i + 1) * 6 + ((l.drop i).flatMap encF).length ≤ (rowC cs (i * 6) (encF x)).size:=by rw [HLD.out,rowC_size (by rw [encF_len,HGS.out];omega),HGS.out];omega
  have HS1:=Lib.hid hs1;have HS2:=Lib.hid hs2;have HS3:=Lib.hid hs3;clear hs1 hs2 hs3
  have hGi:¬ (G = i + 1):=by omega
  have hb1:(0:Int) ≤ (i:Int) + 1:=by omega
  have hb3:(i:Int) + 1 ≤ (l.length:Int) + 1:=by omega
  have htn:((i:Int) + 1).toNat = i + 1:=by omega
  have hw1:IntKind.i64.wrap ((i:Int) + 1) = (i:Int) + 1:=IntWalk.i64_in _ (by omega)
  go_region_law (refine step_copyK rfl (.tmp 50) (.tmp 53) 58 58 rfl 95 6 Tryz.underlying58 hsz6 w.heap.size ((i + 1) * 6) (l.length + 1 - (i + 1)) (G - (i + 1)) ⟨g,i * 6,none⟩ (l.length - i) (l.length - i) (by simp [Act.eval,Act.put]) (by simp [Act.eval,Act.put]) (rowC cs (i * 6) (encF x)) H2.out.drew (((l.drop i).flatMap encF)) (HS1.out) (HS2.out) (HS3.out) (fun v hv => by obtain ⟨y,hy,hu⟩:=List.mem_flatMap.1 hv;exact encF_one y v hu) ?_;intro w3 h3 hb3 ho3;have H3:=Lib.hid h3;have HB3:=Lib.hid hb3;clear h3 hb3 ho3)
  go_wp2
  go_ret
  exact ⟨some ⟨w.heap.size,0,none⟩,G,rfl,OwnR.ins_grow encF_len (by omega) HBS.out hG hGm HGS.out HGT.out H3.out,(HGB.out.mono HBS.out).trans (((HB2.out base HBS.out).drew).trans (HB3.out base HBS.out))⟩
theorem own_finsert_room (l : List Fdr) (w : World) (x : Fdr) (g b base i c : Nat) (cur : Array Value) (hcur : Blk w g 95 cur) (hsz : cur.size = c * 6) (ht : cur.toList.take (l.length * 6) = l.flatMap encF) (hx : Blk w b 95 (encF x).toArray) (hbg : b ≠ g) (hi9 : i < l.length) (hn : l.length ≤ 1000000) (hbase : base ≤ g) (hc : l.length + 1 ≤ c) (hcm : c ≤ maxLen) :
    Calls Tryz.prog 44 #[.slice (some ⟨g,0,none⟩) l.length c,.int .i64 (i:Int),.slice (some ⟨b,0,none⟩) 1 1] w fun e w' => ∃ p' c',e = .returned (.slice p' (l.length + 1) c') ∧ OwnR encF 6 base 95 w' p' c' (insL l i false x) ∧ Below base w w':=by
  obtain ⟨i0,hi,hz0,hz1,hz2⟩:=info_parts info_fader
  have hsz6:(Tryz.prog.info? 95).map (·.size) = some 6:=by rw [hi];simp [hz1]
  have hlt:=hcur.lt
  have hbl:=hx.lt
  have hcs0:cur.size ≠ 0:=by rw [hsz];omega
  have hcs:∀ j u,(l.flatMap encF)[j]? = some u → w.cell? ⟨g,j,none⟩ = some u:=fun j u h => by rw [← ht,List.getElem?_take] at h;split at h;(rw [hcur.cell];simpa using h);cases h
  have hlD:((l.drop i).flatMap encF).length = (l.length - i) * 6:=by rw [flat_len encF_len,List.length_drop]
  have hsl:(l.length + 1) * 6 ≤ cur.size:=by rw [hsz];exact Nat.mul_le_mul_right 6 hc
  have hs1:((l.drop i).flatMap encF).length = Nat.min (l.length + 1 - i) (l.length + 1 - (i + 1)) * 6:=by rw [hlD,show Nat.min (l.length + 1 - i) (l.length + 1 - (i + 1)) = l.length - i from (Nat.min_eq_right (by omega)).trans (by omega)]
  have hs2:∀ j v,((l.drop i).flatMap encF)[j]? = some v → w.drew.cell? ((⟨g,i * 6,none⟩:Addr).add j) = some v:=fun j v hj => by rw [addr_add];exact hcs _ v (flat_drop_get encF_len hj)
  have hs3:(i + 1) * 6 + ((l.drop i).flatMap encF).length ≤ cur.size:=by rw [hlD];omega
  have hs4:(encF x).length = Nat.min 1 (l.length + 1 - i) * 6:=by rw [encF_len,show Nat.min 1 (l.length + 1 - i) = 1 from Nat.min_eq_left (by omega)]
  have hs6:i * 6 + (encF x).length ≤ (rowC cur ((i + 1) * 6) ((l.drop i).flatMap encF)).size:=by rw [rowC_size hs3,encF_len];omega
  have HS1:=Lib.hid hs1;have HS2:=Lib.hid hs2;have HS3:=Lib.hid hs3;have HS4:=Lib.hid hs4;have HS6:=Lib.hid hs6;have HC:=Lib.hid hcur;have HX:=Lib.hid hx;have HSZ:=Lib.hid hsz;have HT:=Lib.hid ht;have HCC:=Lib.hid hc;have HCM:=Lib.hid hcm;clear hs1 hs2 hs3 hs4 hs6 hlD hcs
  have hov:∀ lb cb,(callFunc 97 #[.slice (some ⟨b,0,none⟩) 1 1,.slice (some ⟨g,(i + 1) * 6,none⟩) lb cb]).run Tryz.prog w = .ok (.value (.bool false)) w:=fun lb cb => by
    rw [run_callFunc_extern Tryz.func97 (by kernel_rfl) (by kernel_rfl) (by kernel_rfl) (e:=Extern.SlicesOverlaps.overlaps #[58,58] #[4]) (by kernel_rfl),Lib.run_overlaps_apart w 58 4 95 Tryz.underlying58 6 (fun w => by simp [Go.sizeOf,typeInfo,hi,hz1]) ⟨b,0,none⟩ ⟨g,(i + 1) * 6,none⟩ 1 1 lb cb hbg 95 95 6 cur.size (by unfold World.shape?;rw [show w.heap[b]? = _ from hx];simp [encF_len]) (by unfold World.shape?;rw [show w.heap[g]? = _ from hcur]) hcs0 (hx.frozen 0) (hx.frozen 6)]
    rfl
  clear hcur hx hsz ht hcs0 hsl
  unfold maxLen at hcm
  have hq2:((i:Int) == (l.length:Int)) = false:=by simp;omega
  have hq3:¬ (c:Int) < (l.length:Int) + 1:=by omega
  have hci:¬ (c = i):=by omega
  have hci1:¬ (c = i + 1):=by omega
  have hi0:(0:Int) ≤ (i:Int):=by omega
  have hi1:(i:Int) ≤ (l.length:Int):=by omega
  have hi2:(i:Int) ≤ (l.length:Int) + 1:=by omega
  have hi3:(l.length:Int) + 1 ≤ (c:Int):=by omega
  have hcb:(c:Int) ≤ 9223372036854775807:=by omega
  have hn1:((l.length:Int) + 1).toNat = l.length + 1:=by omega
  have hb1:(0:Int) ≤ (i:Int) + 1:=by omega
  have hb3:(i:Int) + 1 ≤ (l.length:Int) + 1:=by omega
  have htn:((i:Int) + 1).toNat = i + 1:=by omega
  clear hcm
  have hw1:IntKind.i64.wrap ((i:Int) + 1) = (i:Int) + 1:=IntWalk.i64_in _ (by omega)
  go_enter Tryz.func44,Tryz.ntmps44
  go_wp2_with (simp only [hov])
  go_region_law (refine step_copyK rfl (.tmp 73) (.tmp 76) 58 58 rfl 95 6 Tryz.underlying58 hsz6 g ((i + 1) * 6) (l.length + 1 - (i + 1)) (c - (i + 1)) ⟨g,i * 6,none⟩ (l.length + 1 - i) (c - i) (by simp [Act.eval,Act.put]) (by simp [Act.eval,Act.put]) cur HC.out.drew (((l.drop i).flatMap encF)) (HS1.out) (HS2.out) (HS3.out) (fun v hv => by obtain ⟨y,hy,hu⟩:=List.mem_flatMap.1 hv;exact encF_one y v hu) ?_;intro w2 h2 hb2 ho2;have H2:=Lib.hid h2;have HB2:=Lib.hid hb2;have HO2:=Lib.hid ho2;clear h2 hb2 ho2)
  have hs5:∀ j v,(encF x)[j]? = some v → w2.cell? ((⟨b,0,none⟩:Addr).add j) = some v:=fun j v hj => by rw [addr_add,Nat.zero_add];refine (World.cell?_of_block (w:=w) (w':=w2) (a:=⟨b,j,none⟩) ?_).trans ?_;exact HO2.out b hbg;rw [HX.out.cell];simpa using hj
  have HS5:=Lib.hid hs5;clear hs5
  go_wp2_with (first | (refine wpList_copyK rfl (.tmp 80) (.tmp 81) 58 58 rfl 95 6 Tryz.underlying58 hsz6 g (i * 6) (l.length + 1 - i) (c - i) ⟨b,0,none⟩ (1) (1) rfl rfl (rowC cur ((i + 1) * 6) ((l.drop i).flatMap encF)) H2.out (encF x) (HS4.out) (HS5.out) (HS6.out) (encF_one x) ?_;intro w3 h3 hb3 ho3;have H3:=Lib.hid h3;have HB3:=Lib.hid hb3;clear h3 hb3 ho3))
  go_ret
  exact ⟨some ⟨g,0,none⟩,c,rfl,OwnR.ins_room encF_len (by omega) hbase HCC.out HCM.out HSZ.out HT.out H3.out,((Below.refl base w).drew.trans (HB2.out base hbase)).trans (HB3.out base hbase)⟩
theorem own_finsert_end (l : List Fdr) (w : World) (x : Fdr) (pp : Option Addr) (cc base b : Nat) (hO : OwnR encF 6 base 95 w pp cc l) (hc : ∀ j u, (encF x)[j]? = some u → w.cell? ⟨b, j, none⟩ = some u) (hn : l.length ≤ 1000000) (hbase : base ≤ w.heap.size) :
    Calls Tryz.prog 44 #[.slice pp l.length cc,.int .i64 (l.length:Int),.slice (some ⟨b,0,none⟩) 1 1] w fun e w' => ∃ p' c',e = .returned (.slice p' (l.length + 1) c') ∧ OwnR encF 6 base 95 w' p' c' (l ++ [x]) ∧ Below base w w':=by
  obtain ⟨i0,hi,hz0,hz1,hz2⟩:=info_parts info_fader
  have HN:=Lib.hid hn;have HC:=Lib.hid hc;have HO:=Lib.hid hO;have HBS:=Lib.hid hbase;clear hn hc hbase
  have hcap:=hO.cap
  rcases hO.2 with ⟨h1,h2⟩ | ⟨g,cap,cur,h1,-,-,-,h4,-⟩
  · obtain rfl:l = []:=List.length_eq_zero_iff.1 h2
    injection h1 with h1 h3 h4
    subst h1 h4
    clear hO hcap h2 h3
    dsimp only [List.length_nil]
    go_enter Tryz.func44,Tryz.ntmps44
    go_wp2_with (first | (at_builtin;refine wpList_appR3 rfl _ _ 58 rfl base 95 i0 (.agg #[.int .i64 0,.string ⟨#[]⟩,.int .i64 0,.int .i64 0,.int .i64 0,.int .i64 0]) 56 Tryz.underlying58 hi hz0 hz1 hz2 rfl (by decide) (by decide) none 0 _ [] rfl _ x b (encF_len x) HC.out (encF_one x) rfl HO.out rfl (by have:=HN.out;omega) HBS.out ?_;intro p1 c1 w3 hO3 hb3 _;have HO3:=Lib.hid hO3;have HB3:=Lib.hid hb3;clear hO3 hb3))
    go_ret
    exact ⟨p1,c1,by simp,HO3.out,HB3.out⟩
  · injection h1 with h1 h3 h5
    subst h1 h5
    clear hO h3
    unfold maxLen at h4
    have hk0:(0:Int) ≤ (l.length:Int):=by omega
    have hk1:(l.length:Int) ≤ (cc:Int):=by omega
    by_cases hcl:cc = l.length
    · subst hcl
      go_enter Tryz.func44,Tryz.ntmps44
      go_wp2_with (first | (at_builtin;refine wpList_appR3 rfl _ _ 58 rfl base 95 i0 (.agg #[.int .i64 0,.string ⟨#[]⟩,.int .i64 0,.int .i64 0,.int .i64 0,.int .i64 0]) 56 Tryz.underlying58 hi hz0 hz1 hz2 rfl (by decide) (by decide) (some ⟨g,0,none⟩) l.length _ l rfl _ x b (encF_len x) HC.out (encF_one x) rfl HO.out rfl (by have:=HN.out;omega) HBS.out ?_;intro p1 c1 w3 hO3 hb3 _;have HO3:=Lib.hid hO3;have HB3:=Lib.hid hb3;clear hO3 hb3))
      go_ret
      exact ⟨p1,c1,by simp,HO3.out,HB3.out⟩
    · have hcl2:¬ l.length = cc:=fun h => hcl h.symm
      go_enter Tryz.func44,Tryz.ntmps44
      go_wp2_with (first | (at_builtin;refine wpList_appR3 rfl _ _ 58 rfl base 95 i0 (.agg #[.int .i64 0,.string ⟨#[]⟩,.int .i64 0,.int .i64 0,.int .i64 0,.int .i64 0]) 56 Tryz.underlying58 hi hz0 hz1 hz2 rfl (by decide) (by decide) (some ⟨g,0,none⟩) cc _ l rfl _ x b (encF_len x) HC.out (encF_one x) rfl HO.out rfl (by have:=HN.out;omega) HBS.out ?_;intro p1 c1 w3 hO3 hb3 _;have HO3:=Lib.hid hO3;have HB3:=Lib.hid hb3;clear hO3 hb3))
      go_ret
      exact ⟨p1,c1,by simp,HO3.out,HB3.out⟩
theorem own_finsert (l : List Fdr) (w : World) (x : Fdr) (pp : Option Addr) (cc base b i : Nat) (hO : OwnR encF 6 base 95 w pp cc l) (hx : Blk w b 95 (encF x).toArray) (hne : ∀ a, pp = some a → b ≠ a.block) (hi : i ≤ l.length) (hn : l.length ≤ 1000000) (hbase : base ≤ w.heap.size) :
    Calls Tryz.prog 44 #[.slice pp l.length cc,.int .i64 (i:Int),.slice (some ⟨b,0,none⟩) 1 1] w fun e w' => ∃ p' c',e = .returned (.slice p' (l.length + 1) c') ∧ OwnR encF 6 base 95 w' p' c' (insL l i false x) ∧ Below base w w':=by
  by_cases e:i = l.length
  · subst e
    rw [insL_end]
    exact own_finsert_end l w x pp cc base b hO (fun j u hu => by rw [hx.cell];simpa using hu) hn hbase
  · obtain ⟨g,cur,rfl,hg,hcur,h1,h2,h3,h4⟩:=hO.to_blk (fun h => by subst h;simp at hi;exact e hi)
    by_cases c:cc = l.length
    · subst c
      exact own_finsert_grow l w x g b base i cur hcur h4 hx (by omega) hn hbase
    · exact own_finsert_room l w x g b base i cc cur hcur h3 h4 hx (hne _ rfl) (by omega) hn hg (by omega) h2
end Go.Proofs.YtmjkenlifgmeeaaGreatDoor
