/-
  
-/
import Derived.Test.YtbeojahilbglcaaGreatDoorQdYb
import Derived.Test.YtbeojahilbglcaaGreatDoorQdQq
import Derived.Test.YtbeojahilbglcaaGreatDoorQdMd
import Derived.WalkSpells
import Derived.Lib.SliceRun
import Derived.Lib.Overlaps
import Derived.Laws.Externs
import Derived.Test.YtbeojahilbglcaaGreatDoorQdYc
import Derived.Test.YtbeojahilbglcaaGreatDoorQdWv1
import Derived.Test.YtbeojahilbglcaaGreatDoorQdYa
import Derived.Test.YtbeojahilbglcaaGreatDoorQdYx
import Derived.Test.YtbeojahilbglcaaGreatDoorQdWv4
set_option linter.unusedVariables false
set_option linter.unusedSimpArgs false
set_option maxRecDepth 100000
set_option maxHeartbeats 8000000
namespace Lum
open Go Go.RowKit Go.Shelf
open Go.Lib (decDigits itoa)
abbrev RnT:=Rnx × Sl3
theorem ownR_some {β:Type} {enc:β → List Value} {k base:Nat} {e:TypeId} {W:World} {p:Option Addr} {c:Nat} {l:List β} (h:OwnR enc k base e W p c l) (hn:l ≠ []):∃ g,p = some ⟨g,0,none⟩ ∧ base ≤ g:=by
  obtain ⟨g,cur,h1,h2,-⟩:=h.to_blk hn
  exact ⟨g,h1,h2⟩
end Lum
namespace Go.Proofs.YtbeojahilbglcaaGreatDoor
open Go.RowKit Go.Shelf Lum
open Go.Lib (decDigits itoa)
attribute [local go_sem] bs_get bs_extract_end bs_extract_from bs_extract bs_append
theorem info_run:(Tryz.prog.info? 68).map (fun i => (i.zero,i.size,i.bytes)) = some (some (.agg #[.int .i64 0,.slice none 0 0,.int .i64 0,.int .i64 0,.int .i64 0,.int .i64 0]),6,64):=by kernel_rfl
theorem info_int0:(Tryz.prog.info? 3).map (fun i => (i.zero,i.size,i.bytes)) = some (some (.int .i64 0),1,8):=by kernel_rfl
theorem own_nclone (w : World) (l : List RnT) (p : Option Addr) (c : Nat) (hv1 : RowX encN 6 w p l) (hn : l.length ≤ 1000000) :
    Calls Tryz.prog 45 #[.slice p l.length c] w fun e w' => ∃ pp cc,e = .returned (.slice pp l.length cc) ∧ OwnR encN 6 w.heap.size 68 w' pp cc l ∧ Below w.heap.size w w':=by
  have hq:∀ (w:World) (a:Option Addr) (n c n2 c2:Nat),(binOp .eql 22 (.slice a n c) (.slice none n2 c2)).run Tryz.prog w = .ok (.bool a.isNone) w:=fun w a n c n2 c2 => Lib.run_eql_slice_nil w _ _ a n c n2 c2 Tryz.underlying22
  obtain ⟨i0,hi,hz0,hz1,hz2⟩:=info_parts info_run
  have HN:=Lib.hid hn;clear hn
  cases p with
  | none =>
    have h0:l = []:=by
      by_cases h:l = []
      · exact h
      · obtain ⟨b,o,e,-⟩:=hv1 h;cases e
    clear hv1
    subst h0
    dsimp only [List.length_nil]
    go_enter Tryz.func45,Tryz.ntmps45
    go_wp2_with fail
    go_ret
    exact ⟨none,0,rfl,OwnR.nil _ _ _,Below.refl _ _⟩
  | some ad =>
    by_cases hl0:l = []
    · subst hl0
      clear hv1
      dsimp only [List.length_nil]
      go_enter Tryz.func45,Tryz.ntmps45
      have HA:Hid (∀ (j:Nat) (u:Value),(([]:List RnT).flatMap encN)[j]? = some u → w.cell? (ad.add j) = some u):=Lib.hid (fun j u h => by simp at h)
      go_wp2_with fail
      go_ret
      exact ⟨_,_,rfl,OwnR.made w 68,(Below.refl w.heap.size w).alloc (Nat.le_refl _) _⟩
    obtain ⟨b,off,had,-,hC⟩:=hv1 hl0
    obtain rfl:=Option.some.inj had
    have HA:Hid (∀ (j:Nat) (u:Value),(l.flatMap encN)[j]? = some u → w.cell? ⟨b,off + j,none⟩ = some u):=Lib.hid (flat_cell encN_len l (fun j => w.cell? ⟨b,off + j,none⟩) (fun i hi j v hv => by have:=hC i hi j v hv;rwa [Nat.add_assoc] at this))
    clear hv1 hC
    go_enter Tryz.func45,Tryz.ntmps45
    go_wp2_with (first | (at_builtin;refine wpList_appL rfl _ _ 22 rfl w.heap.size 68 i0 (.agg #[.int .i64 0,.slice none 0 0,.int .i64 0,.int .i64 0,.int .i64 0,.int .i64 0]) 64 Tryz.underlying22 hi hz0 hz1 hz2 rfl (by decide) (by decide) (some ⟨w.heap.size,0,none⟩) 0 0 [] rfl _ l b off c encN_len (fun j u hu => Lib.cell?_alloc_some _ (HA.out j u hu)) (fun y _ => encN_one y) rfl (OwnR.made w 68) rfl (by have:=HN.out;simp;omega) (by simp) ?_;intro p1 c1 w3 hO3 hb3;have HO3:=Lib.hid hO3;have HB3:=Lib.hid hb3;clear hO3 hb3))
    go_ret
    refine ⟨p1,c1,by simp,by simpa using HO3.out,?_⟩
    exact ((Below.refl w.heap.size w).alloc (Nat.le_refl _) _).trans HB3.out
theorem own_iclone (w : World) (l : List Int) (p : Option Addr) (c : Nat) (hv1 : RowX encI 1 w p l) (hn : l.length ≤ 17592186044416) :
    Calls Tryz.prog 31 #[.slice p l.length c] w fun e w' => ∃ pp cc,e = .returned (.slice pp l.length cc) ∧ OwnR encI 1 w.heap.size 3 w' pp cc l ∧ Below w.heap.size w w':=by
  have hq:∀ (w:World) (a:Option Addr) (n c n2 c2:Nat),(binOp .eql 25 (.slice a n c) (.slice none n2 c2)).run Tryz.prog w = .ok (.bool a.isNone) w:=fun w a n c n2 c2 => Lib.run_eql_slice_nil w _ _ a n c n2 c2 Tryz.underlying25
  obtain ⟨i0,hi,hz0,hz1,hz2⟩:=info_parts info_int0
  have HN:=Lib.hid hn;clear hn
  cases p with
  | none =>
    have h0:l = []:=by
      by_cases h:l = []
      · exact h
      · obtain ⟨b,o,e,-⟩:=hv1 h;cases e
    clear hv1
    subst h0
    dsimp only [List.length_nil]
    go_enter Tryz.func31,Tryz.ntmps31
    go_wp2_with fail
    go_ret
    exact ⟨none,0,rfl,OwnR.nil _ _ _,Below.refl _ _⟩
  | some ad =>
    by_cases hl0:l = []
    · subst hl0
      clear hv1
      dsimp only [List.length_nil]
      go_enter Tryz.func31,Tryz.ntmps31
      have HA:Hid (∀ (j:Nat) (u:Value),(([]:List Int).flatMap encI)[j]? = some u → w.cell? (ad.add j) = some u):=Lib.hid (fun j u h => by simp at h)
      go_wp2_with fail
      go_ret
      exact ⟨_,_,rfl,OwnR.made w 3,(Below.refl w.heap.size w).alloc (Nat.le_refl _) _⟩
    obtain ⟨b,off,had,-,hC⟩:=hv1 hl0
    obtain rfl:=Option.some.inj had
    have HA:Hid (∀ (j:Nat) (u:Value),(l.flatMap encI)[j]? = some u → w.cell? ⟨b,off + j,none⟩ = some u):=Lib.hid (flat_cell encI_len l (fun j => w.cell? ⟨b,off + j,none⟩) (fun i hi j v hv => by have:=hC i hi j v hv;rwa [Nat.add_assoc] at this))
    clear hv1 hC
    go_enter Tryz.func31,Tryz.ntmps31
    go_wp2_with (first | (at_builtin;refine wpList_appLb rfl _ _ 25 rfl w.heap.size 3 i0 (.int .i64 0) 8 Tryz.underlying25 hi hz0 hz1 hz2 rfl (by decide) (some ⟨w.heap.size,0,none⟩) 0 0 [] rfl _ l b off c encI_len (fun j u hu => Lib.cell?_alloc_some _ (HA.out j u hu)) (fun y _ => encI_one y) rfl (OwnR.made w 3) rfl (by have:=HN.out;simp;omega) (by have:=HN.out;unfold maxLen;simp;omega) (by simp) ?_;intro p1 c1 w3 hO3 hb3;have HO3:=Lib.hid hO3;have HB3:=Lib.hid hb3;clear hO3 hb3))
    go_ret
    refine ⟨p1,c1,by simp,by simpa using HO3.out,?_⟩
    exact ((Below.refl w.heap.size w).alloc (Nat.le_refl _) _).trans HB3.out
theorem own_ninsert_grow (l : List RnT) (w : World) (x : RnT) (g b base i : Nat) (cur : Array Value) (hcur : Blk w g 68 cur) (ht : cur.toList.take (l.length * 6) = l.flatMap encN) (hx : Blk w b 68 (encN x).toArray) (hi9 : i < l.length) (hn : l.length ≤ 1000000) (hbase : base ≤ w.heap.size) :
    Calls Tryz.prog 81 #[.slice (some ⟨g,0,none⟩) l.length l.length,.int .i64 (i:Int),.slice (some ⟨b,0,none⟩) 1 1] w fun e w' => ∃ p' c',e = .returned (.slice p' (l.length + 1) c') ∧ OwnR encN 6 base 68 w' p' c' (insL l i false x) ∧ Below base w w':=by
  have hcs:∀ j u,(l.flatMap encN)[j]? = some u → w.cell? ⟨g,j,none⟩ = some u:=fun j u h => by rw [← ht,List.getElem?_take] at h;split at h;(rw [hcur.cell];simpa using h);cases h
  obtain ⟨i0,hi,hz0,hz1,hz2⟩:=info_parts info_run
  have hsz6:(Tryz.prog.info? 68).map (·.size) = some 6:=by rw [hi];simp [hz1]
  have hlt:=hcur.lt
  have hbl:=hx.lt
  have hA:∀ j v,((l.take i).flatMap encN)[j]? = some v → w.cell? ((⟨g,0,none⟩:Addr).add j) = some v:=fun j v h => by rw [addr_add,Nat.zero_add];exact hcs j v (flat_take_get h)
  have hD:∀ j v,((l.drop i).flatMap encN)[j]? = some v → w.cell? ((⟨g,i * 6,none⟩:Addr).add j) = some v:=fun j v h => by rw [addr_add];exact hcs _ v (flat_drop_get encN_len h)
  have hlA:((l.take i).flatMap encN).length = i * 6:=by rw [flat_len encN_len,List.length_take,Nat.min_eq_left (by omega)]
  have hlD:((l.drop i).flatMap encN).length = (l.length - i) * 6:=by rw [flat_len encN_len,List.length_drop]
  have HCS:=Lib.hid hcs;have HA:=Lib.hid hA;have HD:=Lib.hid hD;have HLA:=Lib.hid hlA;have HLD:=Lib.hid hlD;have HX:=Lib.hid hx;clear hcs hA hD hlA hlD hx hcur ht
  have HN:=Lib.hid hn;have HBS:=Lib.hid hbase;clear hbase
  have hq3:(l.length:Int) < (l.length:Int) + 1:=by omega
  have hq2:((i:Int) == (l.length:Int)) = false:=by simp;omega
  have hci:¬ (l.length = i):=by omega
  have hi0:(0:Int) ≤ (i:Int):=by omega
  have hi1:(i:Int) ≤ (l.length:Int):=by omega
  go_enter Tryz.func81,Tryz.ntmps81
  go_wp2_with (first | (at_builtin;(refine wpList_appZ (k:=6) rfl (.tmp 34) (.tmp 39) 22 3 rfl 68 i0 (.agg #[.int .i64 0,.slice none 0 0,.int .i64 0,.int .i64 0,.int .i64 0,.int .i64 0]) 64 Tryz.underlying22 Tryz.underlying3 hi hz0 hz1 hz2 rfl (by decide) (by decide) w ⟨g,0,none⟩ i l.length ((l.take i).flatMap encN) HLA.out HA.out (l.length + 1 - i) (by omega) (by omega) (by omega) ((l.length:Int) + 1 - (i:Int)) (by omega) (l.length + 1) (by omega) rfl rfl ?_;intro G cs w1 hG hGm hGs hGt hgk hgb;have HGS:=Lib.hid hGs;have HGT:=Lib.hid hGt;have HGK:=Lib.hid hgk;have HGB:=Lib.hid hgb;clear hGs hGt hgk hgb)) | (refine wpList_copyK rfl (.tmp 43) (.tmp 44) 22 22 rfl 68 6 Tryz.underlying22 hsz6 w.heap.size (i * 6) (l.length + 1 - i) (G - i) ⟨b,0,none⟩ (1) (1) rfl rfl cs HGK.out (encN x) (by rw [encN_len];have:Nat.min 1 (l.length + 1 - i) = 1:=Nat.min_eq_left (by omega);rw [this]) (fun j v hj => by rw [addr_add,Nat.zero_add,(HX.out.keep HGB.out).cell];simpa using hj) (by rw [encN_len,HGS.out];omega) (encN_one x) ?_;intro w2 h2 hb2 ho2;have H2:=Lib.hid h2;have HB2:=Lib.hid hb2;have HO2:=Lib.hid ho2;clear h2 hb2 ho2))
  have hs1:((l.drop i).flatMap encN).length = Nat.min (l.length - i) (l.length + 1 - (i + 1)) * 6:=by rw [HLD.out,show Nat.min (l.length - i) (l.length + 1 - (i + 1)) = l.length - i from Nat.min_eq_left (by omega)]
  have hs2:∀ j v,((l.drop i).flatMap encN)[j]? = some v → w2.drew.cell? ((⟨g,i * 6,none⟩:Addr).add j) = some v:=fun j v hj => by rw [addr_add];refine (World.cell?_of_block (w:=w) (w':=w2.drew) (a:=⟨g,i * 6 + j,none⟩) ?_).trans ?_;exact (HO2.out g (Nat.ne_of_lt hlt)).trans (HGB.out.block g hlt);have h1:=HD.out j v hj;rw [addr_add] at h1;exact h1
  have hs3:(i + 1) * 6 + ((l.drop i).flatMap encN).length ≤ (rowC cs (i * 6) (encN x)).size:=by rw [HLD.out,rowC_size (by rw [encN_len,HGS.out];omega),HGS.out];omega
  have HS1:=Lib.hid hs1;have HS2:=Lib.hid hs2;have HS3:=Lib.hid hs3;clear hs1 hs2 hs3
  have hGi:¬ (G = i + 1):=by omega
  have hb1:(0:Int) ≤ (i:Int) + 1:=by omega
  have hb3:(i:Int) + 1 ≤ (l.length:Int) + 1:=by omega
  have htn:((i:Int) + 1).toNat = i + 1:=by omega
  have hw1:IntKind.i64.wrap ((i:Int) + 1) = (i:Int) + 1:=IntWalk.i64_in _ (by omega)
  go_region_law (refine step_copyK rfl (.tmp 50) (.tmp 53) 22 22 rfl 68 6 Tryz.underlying22 hsz6 w.heap.size ((i + 1) * 6) (l.length + 1 - (i + 1)) (G - (i + 1)) ⟨g,i * 6,none⟩ (l.length - i) (l.length - i) (by simp [Act.eval,Act.put]) (by simp [Act.eval,Act.put]) (rowC cs (i * 6) (encN x)) H2.out.drew (((l.drop i).flatMap encN)) (HS1.out) (HS2.out) (HS3.out) (fun v hv => by obtain ⟨y,hy,hu⟩:=List.mem_flatMap.1 hv;exact encN_one y v hu) ?_;intro w3 h3 hb3 ho3;have H3:=Lib.hid h3;have HB3:=Lib.hid hb3;clear h3 hb3 ho3)
  go_wp2
  go_ret
  exact ⟨some ⟨w.heap.size,0,none⟩,G,rfl,OwnR.ins_grow encN_len (by omega) HBS.out hG hGm HGS.out HGT.out H3.out,(HGB.out.mono HBS.out).trans (((HB2.out base HBS.out).drew).trans (HB3.out base HBS.out))⟩
theorem own_ninsert_room (l : List RnT) (w : World) (x : RnT) (g b base i c : Nat) (cur : Array Value) (hcur : Blk w g 68 cur) (hsz : cur.size = c * 6) (ht : cur.toList.take (l.length * 6) = l.flatMap encN) (hx : Blk w b 68 (encN x).toArray) (hbg : b ≠ g) (hi9 : i < l.length) (hn : l.length ≤ 1000000) (hbase : base ≤ g) (hc : l.length + 1 ≤ c) (hcm : c ≤ maxLen) :
    Calls Tryz.prog 81 #[.slice (some ⟨g,0,none⟩) l.length c,.int .i64 (i:Int),.slice (some ⟨b,0,none⟩) 1 1] w fun e w' => ∃ p' c',e = .returned (.slice p' (l.length + 1) c') ∧ OwnR encN 6 base 68 w' p' c' (insL l i false x) ∧ Below base w w':=by
  obtain ⟨i0,hi,hz0,hz1,hz2⟩:=info_parts info_run
  have hsz6:(Tryz.prog.info? 68).map (·.size) = some 6:=by rw [hi];simp [hz1]
  have hlt:=hcur.lt
  have hbl:=hx.lt
  have hcs0:cur.size ≠ 0:=by rw [hsz];omega
  have hcs:∀ j u,(l.flatMap encN)[j]? = some u → w.cell? ⟨g,j,none⟩ = some u:=fun j u h => by rw [← ht,List.getElem?_take] at h;split at h;(rw [hcur.cell];simpa using h);cases h
  have hlD:((l.drop i).flatMap encN).length = (l.length - i) * 6:=by rw [flat_len encN_len,List.length_drop]
  have hsl:(l.length + 1) * 6 ≤ cur.size:=by rw [hsz];exact Nat.mul_le_mul_right 6 hc
  have hs1:((l.drop i).flatMap encN).length = Nat.min (l.length + 1 - i) (l.length + 1 - (i + 1)) * 6:=by rw [hlD,show Nat.min (l.length + 1 - i) (l.length + 1 - (i + 1)) = l.length - i from (Nat.min_eq_right (by omega)).trans (by omega)]
  have hs2:∀ j v,((l.drop i).flatMap encN)[j]? = some v → w.drew.cell? ((⟨g,i * 6,none⟩:Addr).add j) = some v:=fun j v hj => by rw [addr_add];exact hcs _ v (flat_drop_get encN_len hj)
  have hs3:(i + 1) * 6 + ((l.drop i).flatMap encN).length ≤ cur.size:=by rw [hlD];omega
  have hs4:(encN x).length = Nat.min 1 (l.length + 1 - i) * 6:=by rw [encN_len,show Nat.min 1 (l.length + 1 - i) = 1 from Nat.min_eq_left (by omega)]
  have hs6:i * 6 + (encN x).length ≤ (rowC cur ((i + 1) * 6) ((l.drop i).flatMap encN)).size:=by rw [rowC_size hs3,encN_len];omega
  have HS1:=Lib.hid hs1;have HS2:=Lib.hid hs2;have HS3:=Lib.hid hs3;have HS4:=Lib.hid hs4;have HS6:=Lib.hid hs6;have HC:=Lib.hid hcur;have HX:=Lib.hid hx;have HSZ:=Lib.hid hsz;have HT:=Lib.hid ht;have HCC:=Lib.hid hc;have HCM:=Lib.hid hcm;clear hs1 hs2 hs3 hs4 hs6 hlD hcs
  have hov:∀ lb cb,(callFunc 126 #[.slice (some ⟨b,0,none⟩) 1 1,.slice (some ⟨g,(i + 1) * 6,none⟩) lb cb]).run Tryz.prog w = .ok (.value (.bool false)) w:=fun lb cb => by
    rw [run_callFunc_extern Tryz.func126 (by kernel_rfl) (by kernel_rfl) (by kernel_rfl) (e:=Extern.SlicesOverlaps.overlaps #[22,22] #[4]) (by kernel_rfl),Lib.run_overlaps_apart w 22 4 68 Tryz.underlying22 6 (fun w => by simp [Go.sizeOf,typeInfo,hi,hz1]) ⟨b,0,none⟩ ⟨g,(i + 1) * 6,none⟩ 1 1 lb cb hbg 68 68 6 cur.size (by unfold World.shape?;rw [show w.heap[b]? = _ from hx];simp [encN_len]) (by unfold World.shape?;rw [show w.heap[g]? = _ from hcur]) hcs0 (hx.frozen 0) (hx.frozen 6)]
    rfl
  clear hcur hx hsz ht hcs0 hsl
  unfold maxLen at hcm
  have hq2:((i:Int) == (l.length:Int)) = false:=by simp;omega
  have hq3:¬ (c:Int) < (l.length:Int) + 1:=by omega
  have hci:¬ (c = i):=by omega
  have hci1:¬ (c = i + 1):=by omega
  have hi0:(0:Int) ≤ (i:Int):=by omega
  have hi1:(i:Int) ≤ (l.length:Int):=by omega
  have hi2:(i:Int) ≤ (l.length:Int) + 1:=by omega
  have hi3:(l.length:Int) + 1 ≤ (c:Int):=by omega
  have hcb:(c:Int) ≤ 9223372036854775807:=by omega
  have hn1:((l.length:Int) + 1).toNat = l.length + 1:=by omega
  have hb1:(0:Int) ≤ (i:Int) + 1:=by omega
  have hb3:(i:Int) + 1 ≤ (l.length:Int) + 1:=by omega
  have htn:((i:Int) + 1).toNat = i + 1:=by omega
  clear hcm
  have hw1:IntKind.i64.wrap ((i:Int) + 1) = (i:Int) + 1:=IntWalk.i64_in _ (by omega)
  go_enter Tryz.func81,Tryz.ntmps81
  go_wp2_with (simp only [hov])
  go_region_law (refine step_copyK rfl (.tmp 73) (.tmp 76) 22 22 rfl 68 6 Tryz.underlying22 hsz6 g ((i + 1) * 6) (l.length + 1 - (i + 1)) (c - (i + 1)) ⟨g,i * 6,none⟩ (l.length + 1 - i) (c - i) (by simp [Act.eval,Act.put]) (by simp [Act.eval,Act.put]) cur HC.out.drew (((l.drop i).flatMap encN)) (HS1.out) (HS2.out) (HS3.out) (fun v hv => by obtain ⟨y,hy,hu⟩:=List.mem_flatMap.1 hv;exact encN_one y v hu) ?_;intro w2 h2 hb2 ho2;have H2:=Lib.hid h2;have HB2:=Lib.hid hb2;have HO2:=Lib.hid ho2;clear h2 hb2 ho2)
  have hs5:∀ j v,(encN x)[j]? = some v → w2.cell? ((⟨b,0,none⟩:Addr).add j) = some v:=fun j v hj => by rw [addr_add,Nat.zero_add];refine (World.cell?_of_block (w:=w) (w':=w2) (a:=⟨b,j,none⟩) ?_).trans ?_;exact HO2.out b hbg;rw [HX.out.cell];simpa using hj
  have HS5:=Lib.hid hs5;clear hs5
  go_wp2_with (first | (refine wpList_copyK rfl (.tmp 80) (.tmp 81) 22 22 rfl 68 6 Tryz.underlying22 hsz6 g (i * 6) (l.length + 1 - i) (c - i) ⟨b,0,none⟩ (1) (1) rfl rfl (rowC cur ((i + 1) * 6) ((l.drop i).flatMap encN)) H2.out (encN x) (HS4.out) (HS5.out) (HS6.out) (encN_one x) ?_;intro w3 h3 hb3 ho3;have H3:=Lib.hid h3;have HB3:=Lib.hid hb3;clear h3 hb3 ho3))
  go_ret
  exact ⟨some ⟨g,0,none⟩,c,rfl,OwnR.ins_room encN_len (by omega) hbase HCC.out HCM.out HSZ.out HT.out H3.out,((Below.refl base w).drew.trans (HB2.out base hbase)).trans (HB3.out base hbase)⟩
theorem own_ninsert_end (l : List RnT) (w : World) (x : RnT) (pp : Option Addr) (cc base b : Nat) (hO : OwnR encN 6 base 68 w pp cc l) (hc : ∀ j u, (encN x)[j]? = some u → w.cell? ⟨b, j, none⟩ = some u) (hn : l.length ≤ 1000000) (hbase : base ≤ w.heap.size) :
    Calls Tryz.prog 81 #[.slice pp l.length cc,.int .i64 (l.length:Int),.slice (some ⟨b,0,none⟩) 1 1] w fun e w' => ∃ p' c',e = .returned (.slice p' (l.length + 1) c') ∧ OwnR encN 6 base 68 w' p' c' (l ++ [x]) ∧ Below base w w':=by
  obtain ⟨i0,hi,hz0,hz1,hz2⟩:=info_parts info_run
  have HN:=Lib.hid hn;have HC:=Lib.hid hc;have HO:=Lib.hid hO;have HBS:=Lib.hid hbase;clear hn hc hbase
  have hcap:=hO.cap
  rcases hO.2 with ⟨h1,h2⟩ | ⟨g,cap,cur,h1,-,-,-,h4,-⟩
  · obtain rfl:l = []:=List.length_eq_zero_iff.1 h2
    injection h1 with h1 h3 h4
    subst h1 h4
    clear hO hcap h2 h3
    dsimp only [List.length_nil]
    go_enter Tryz.func81,Tryz.ntmps81
    go_wp2_with (first | (at_builtin;refine wpList_appR3 rfl _ _ 22 rfl base 68 i0 (.agg #[.int .i64 0,.slice none 0 0,.int .i64 0,.int .i64 0,.int .i64 0,.int .i64 0]) 64 Tryz.underlying22 hi hz0 hz1 hz2 rfl (by decide) (by decide) none 0 _ [] rfl _ x b (encN_len x) HC.out (encN_one x) rfl HO.out rfl (by have:=HN.out;omega) HBS.out ?_;intro p1 c1 w3 hO3 hb3 _;have HO3:=Lib.hid hO3;have HB3:=Lib.hid hb3;clear hO3 hb3))
    go_ret
    exact ⟨p1,c1,by simp,HO3.out,HB3.out⟩
  · injection h1 with h1 h3 h5
    subst h1 h5
    clear hO h3
    unfold maxLen at h4
    have hk0:(0:Int) ≤ (l.length:Int):=by omega
    have hk1:(l.length:Int) ≤ (cc:Int):=by omega
    by_cases hcl:cc = l.length
    · subst hcl
      go_enter Tryz.func81,Tryz.ntmps81
      go_wp2_with (first | (at_builtin;refine wpList_appR3 rfl _ _ 22 rfl base 68 i0 (.agg #[.int .i64 0,.slice none 0 0,.int .i64 0,.int .i64 0,.int .i64 0,.int .i64 0]) 64 Tryz.underlying22 hi hz0 hz1 hz2 rfl (by decide) (by decide) (some ⟨g,0,none⟩) l.length _ l rfl _ x b (encN_len x) HC.out (encN_one x) rfl HO.out rfl (by have:=HN.out;omega) HBS.out ?_;intro p1 c1 w3 hO3 hb3 _;have HO3:=Lib.hid hO3;have HB3:=Lib.hid hb3;clear hO3 hb3))
      go_ret
      exact ⟨p1,c1,by simp,HO3.out,HB3.out⟩
    · have hcl2:¬ l.length = cc:=fun h => hcl h.symm
      go_enter Tryz.func81,Tryz.ntmps81
      go_wp2_with (first | (at_builtin;refine wpList_appR3 rfl _ _ 22 rfl base 68 i0 (.agg #[.int .i64 0,.slice none 0 0,.int .i64 0,.int .i64 0,.int .i64 0,.int .i64 0]) 64 Tryz.underlying22 hi hz0 hz1 hz2 rfl (by decide) (by decide) (some ⟨g,0,none⟩) cc _ l rfl _ x b (encN_len x) HC.out (encN_one x) rfl HO.out rfl (by have:=HN.out;omega) HBS.out ?_;intro p1 c1 w3 hO3 hb3 _;have HO3:=Lib.hid hO3;have HB3:=Lib.hid hb3;clear hO3 hb3))
      go_ret
      exact ⟨p1,c1,by simp,HO3.out,HB3.out⟩
theorem own_ninsert (l : List RnT) (w : World) (x : RnT) (pp : Option Addr) (cc base b i : Nat) (hO : OwnR encN 6 base 68 w pp cc l) (hx : Blk w b 68 (encN x).toArray) (hne : ∀ a, pp = some a → b ≠ a.block) (hi : i ≤ l.length) (hn : l.length ≤ 1000000) (hbase : base ≤ w.heap.size) :
    Calls Tryz.prog 81 #[.slice pp l.length cc,.int .i64 (i:Int),.slice (some ⟨b,0,none⟩) 1 1] w fun e w' => ∃ p' c',e = .returned (.slice p' (l.length + 1) c') ∧ OwnR encN 6 base 68 w' p' c' (insL l i false x) ∧ Below base w w':=by
  by_cases e:i = l.length
  · subst e
    rw [insL_end]
    exact own_ninsert_end l w x pp cc base b hO (fun j u hu => by rw [hx.cell];simpa using hu) hn hbase
  · obtain ⟨g,cur,rfl,hg,hcur,h1,h2,h3,h4⟩:=hO.to_blk (fun h => by subst h;simp at hi;exact e hi)
    by_cases c:cc = l.length
    · subst c
      exact own_ninsert_grow l w x g b base i cur hcur h4 hx (by omega) hn hbase
    · exact own_ninsert_room l w x g b base i cc cur hcur h3 h4 hx (hne _ rfl) (by omega) hn hg (by omega) h2
end Go.Proofs.YtbeojahilbglcaaGreatDoor
namespace Go.Proofs.YtbeojahilbglcaaGreatDoor
open Go.RowKit Go.Shelf Lum
open Go.Lib (decDigits itoa)
attribute [local go_sem] bs_get bs_extract_end bs_extract_from bs_extract bs_append
theorem own_eput_hit (w : World) (L : List RnT) (x0 : RnT) (pp : Option Addr) (cc : Nat) (i : Nat) (hR : RowX encN 6 w pp L) (hok : OrdOk rnE (·.ef) (L.map (·.1))) (hx : 1 ≤ x0.1.ef ∧ x0.1.ef ≤ 1048576) (hb9 : Belongs (keyAt (·.ef) (L.map (·.1))) L.length x0.1.ef i true) :
    Calls Tryz.prog 33 #[.slice pp L.length cc,.agg #[.int .i64 (x0.1.ef),.slice x0.2.1 x0.2.2.1 x0.2.2.2,.int .i64 (x0.1.ce),.int .i64 (x0.1.cr),.int .i64 (x0.1.cd),.int .i64 (x0.1.cl)]] w fun e w' => ∃ p c,e = .returned (.slice p (insL L i true x0).length c) ∧ OwnR encN 6 w.heap.size 68 w' p c (insL L i true x0) ∧ Below w.heap.size w w':=by
  have hfew:L.length ≤ 16:=by have:=hok.few;rwa [List.length_map] at this
  have hll:(L.map (·.1)).length = L.length:=List.length_map _
  have hfi:=fun W (h:RowX encN 6 W pp L) => own_find_run_at x0.1.ef (L.map (·.1)) L pp cc W rfl h hok hx i true (by rw [hll];exact hb9)
  have hcl:=fun W (h:RowX encN 6 W pp L) => own_nclone W L pp cc h (by omega)
  have hal:=(Below.refl w.heap.size w).alloc (Nat.le_refl _) (.cells #[.int .i64 (x0.1.ef),.slice x0.2.1 x0.2.2.1 x0.2.2.2,.int .i64 (x0.1.ce),.int .i64 (x0.1.cr),.int .i64 (x0.1.cd),.int .i64 (x0.1.cl)] 68)
  have HR:=Lib.hid (RowX.kept hR hal)
  have HB:=Lib.hid hal;clear hal
  have HK:=Lib.hid (Blk.new w 68 #[.int .i64 (x0.1.ef),.slice x0.2.1 x0.2.2.1 x0.2.2.2,.int .i64 (x0.1.ce),.int .i64 (x0.1.cr),.int .i64 (x0.1.cd),.int .i64 (x0.1.cl)])
  obtain ⟨k0,k1,k2,k3,k4,k5,kf0,kf1,kf2,kf3,kf4,kf5⟩:=HK.out.c6
  have HIN:=Lib.hid hb9
  have HFEW:=Lib.hid hfew
  clear hR hok hx hb9 hfew hll
  have HFI:=Lib.hid hfi;clear hfi
  have HCL:=Lib.hid hcl;clear hcl
  go_enter Tryz.func33,Tryz.ntmps33
  go_wp2_with (first | (with_reducible refine ((HFI.out _ HR.out).mono ?_);rintro e w' ⟨rfl,hb⟩;replace HK:=Lib.hid (HK.out.keep hb);clear k0 k1 k2 k3 k4 k5 kf0 kf1 kf2 kf3 kf4 kf5;replace HR:=Lib.hid (RowX.kept HR.out hb);replace HB:=Lib.hid (bch' HB.out hb);clear hb;obtain ⟨k0,k1,k2,k3,k4,k5,kf0,kf1,kf2,kf3,kf4,kf5⟩:=HK.out.c6))
  refine ((HCL.out _ HR.out).mono ?_)
  rintro e w3 ⟨p1,c1,rfl,ho,hb⟩
  have HO:=Lib.hid ho;clear ho
  have HW:Hid (w.heap.size < w'.heap.size):=Lib.hid HK.out.lt
  have HH:Hid (w'.heap.size ≤ w3.heap.size):=Lib.hid hb.size
  replace HK:=Lib.hid (HK.out.keep hb);clear k0 k1 k2 k3 k4 k5 kf0 kf1 kf2 kf3 kf4 kf5;replace HB:=Lib.hid (bch' HB.out hb);clear hb;obtain ⟨k0,k1,k2,k3,k4,k5,kf0,kf1,kf2,kf3,kf4,kf5⟩:=HK.out.c6
  clear HCL HFI HR
  obtain ⟨hi,-⟩:=HIN.out.yes rfl
  have hi0:(0:Int) ≤ (i:Int):=by omega
  have hi1:(i:Int) < (L.length:Int):=by omega
  have h16:=HFEW.out
  obtain ⟨g,rfl,hg⟩:=ownR_some HO.out (fun h => by subst h;simp at hi)
  have hg2:w.heap.size ≤ g:=by have:=HW.out;omega
  have hgk:g ≠ w.heap.size:=by have:=HW.out;omega
  have hgk2:w.heap.size ≠ g:=fun h => hgk h.symm
  obtain ⟨y,hy⟩:∃ y,y = L[i]'hi:=⟨_,rfl⟩
  have hca:=HO.out.cellsAt encN_len (show L[i]? = some y by rw [hy];exact List.getElem?_eq_getElem hi)
  have z0:w3.cell? ⟨g,i * 6,none⟩ = some (.int .i64 (y.1.ef)):=hca 0 _ rfl
  have z1:w3.cell? ⟨g,i * 6 + 1,none⟩ = some (.slice y.2.1 y.2.2.1 y.2.2.2):=hca 1 _ rfl
  have z2:w3.cell? ⟨g,i * 6 + 2,none⟩ = some (.int .i64 (y.1.ce)):=hca 2 _ rfl
  have z3:w3.cell? ⟨g,i * 6 + 3,none⟩ = some (.int .i64 (y.1.cr)):=hca 3 _ rfl
  have z4:w3.cell? ⟨g,i * 6 + 4,none⟩ = some (.int .i64 (y.1.cd)):=hca 4 _ rfl
  have z5:w3.cell? ⟨g,i * 6 + 5,none⟩ = some (.int .i64 (y.1.cl)):=hca 5 _ rfl
  have zf0:w3.frozen? ⟨g,i * 6,none⟩ = false:=HO.out.frozenAt (fun h => by subst h;simp at hi) _
  have zf1:w3.frozen? ⟨g,i * 6 + 1,none⟩ = false:=HO.out.frozenAt (fun h => by subst h;simp at hi) _
  have zf2:w3.frozen? ⟨g,i * 6 + 2,none⟩ = false:=HO.out.frozenAt (fun h => by subst h;simp at hi) _
  have zf3:w3.frozen? ⟨g,i * 6 + 3,none⟩ = false:=HO.out.frozenAt (fun h => by subst h;simp at hi) _
  have zf4:w3.frozen? ⟨g,i * 6 + 4,none⟩ = false:=HO.out.frozenAt (fun h => by subst h;simp at hi) _
  have zf5:w3.frozen? ⟨g,i * 6 + 5,none⟩ = false:=HO.out.frozenAt (fun h => by subst h;simp at hi) _
  clear hca hy
  go_wp2_with fail
  go_ret
  refine ⟨some ⟨g,0,none⟩,c1,by first | (rw [insL_len_hit hi];done) | (rw [insL_len_hit hi];rfl),?_,?_⟩
  · rw [insL_set hi]
    exact (OwnR.setk encN_len HO.out hi x0).lower (Nat.le_of_lt HW.out)
  · exact (((((HB.out.setCell hg2 _).setCell hg2 _).setCell hg2 _).setCell hg2 _).setCell hg2 _).setCell hg2 _
theorem own_eput_new (w : World) (L : List RnT) (x0 : RnT) (pp : Option Addr) (cc : Nat) (i : Nat) (hR : RowX encN 6 w pp L) (hok : OrdOk rnE (·.ef) (L.map (·.1))) (hx : 1 ≤ x0.1.ef ∧ x0.1.ef ≤ 1048576) (hb9 : Belongs (keyAt (·.ef) (L.map (·.1))) L.length x0.1.ef i false) :
    Calls Tryz.prog 33 #[.slice pp L.length cc,.agg #[.int .i64 (x0.1.ef),.slice x0.2.1 x0.2.2.1 x0.2.2.2,.int .i64 (x0.1.ce),.int .i64 (x0.1.cr),.int .i64 (x0.1.cd),.int .i64 (x0.1.cl)]] w fun e w' => ∃ p c,e = .returned (.slice p (insL L i false x0).length c) ∧ OwnR encN 6 w.heap.size 68 w' p c (insL L i false x0) ∧ Below w.heap.size w w':=by
  have hfew:L.length ≤ 16:=by have:=hok.few;rwa [List.length_map] at this
  have hll:(L.map (·.1)).length = L.length:=List.length_map _
  have hfi:=fun W (h:RowX encN 6 W pp L) => own_find_run_at x0.1.ef (L.map (·.1)) L pp cc W rfl h hok hx i false (by rw [hll];exact hb9)
  have hcl:=fun W (h:RowX encN 6 W pp L) => own_nclone W L pp cc h (by omega)
  have hal:=(Below.refl w.heap.size w).alloc (Nat.le_refl _) (.cells #[.int .i64 (x0.1.ef),.slice x0.2.1 x0.2.2.1 x0.2.2.2,.int .i64 (x0.1.ce),.int .i64 (x0.1.cr),.int .i64 (x0.1.cd),.int .i64 (x0.1.cl)] 68)
  have HR:=Lib.hid (RowX.kept hR hal)
  have HB:=Lib.hid hal;clear hal
  have HK:=Lib.hid (Blk.new w 68 #[.int .i64 (x0.1.ef),.slice x0.2.1 x0.2.2.1 x0.2.2.2,.int .i64 (x0.1.ce),.int .i64 (x0.1.cr),.int .i64 (x0.1.cd),.int .i64 (x0.1.cl)])
  obtain ⟨k0,k1,k2,k3,k4,k5,kf0,kf1,kf2,kf3,kf4,kf5⟩:=HK.out.c6
  have HIN:=Lib.hid hb9
  have HFEW:=Lib.hid hfew
  clear hR hok hx hb9 hfew hll
  have HFI:=Lib.hid hfi;clear hfi
  have HCL:=Lib.hid hcl;clear hcl
  go_enter Tryz.func33,Tryz.ntmps33
  go_wp2_with (first | (with_reducible refine ((HFI.out _ HR.out).mono ?_);rintro e w' ⟨rfl,hb⟩;replace HK:=Lib.hid (HK.out.keep hb);clear k0 k1 k2 k3 k4 k5 kf0 kf1 kf2 kf3 kf4 kf5;replace HR:=Lib.hid (RowX.kept HR.out hb);replace HB:=Lib.hid (bch' HB.out hb);clear hb;obtain ⟨k0,k1,k2,k3,k4,k5,kf0,kf1,kf2,kf3,kf4,kf5⟩:=HK.out.c6))
  refine ((HCL.out _ HR.out).mono ?_)
  rintro e w3 ⟨p1,c1,rfl,ho,hb⟩
  have HO:=Lib.hid ho;clear ho
  have HW:Hid (w.heap.size < w'.heap.size):=Lib.hid HK.out.lt
  have HH:Hid (w'.heap.size ≤ w3.heap.size):=Lib.hid hb.size
  replace HK:=Lib.hid (HK.out.keep hb);clear k0 k1 k2 k3 k4 k5 kf0 kf1 kf2 kf3 kf4 kf5;replace HB:=Lib.hid (bch' HB.out hb);clear hb;obtain ⟨k0,k1,k2,k3,k4,k5,kf0,kf1,kf2,kf3,kf4,kf5⟩:=HK.out.c6
  clear HCL HFI HR
  have hal:=(Below.refl w3.heap.size w3).alloc (Nat.le_refl _) (.cells #[.int .i64 (x0.1.ef),.slice x0.2.1 x0.2.2.1 x0.2.2.2,.int .i64 (x0.1.ce),.int .i64 (x0.1.cr),.int .i64 (x0.1.cd),.int .i64 (x0.1.cl)] 68)
  go_wp2_with fail
  refine ((own_ninsert L _ x0 p1 c1 w'.heap.size w3.heap.size i (HO.out.keep hal) (Blk.new w3 68 _) (fun a ha => by have:=(HO.out.lt a ha).2;omega) HIN.out.le (by have:=HFEW.out;omega) (by rw [World.size_alloc];have:=HH.out;omega)).mono ?_)
  rintro e w5 ⟨p2,c2,rfl,ho,hb⟩
  have HO2:=Lib.hid ho;clear ho
  have HB3:=Lib.hid ((HB.out.trans (hal.mono (by have:=HW.out;have:=HH.out;omega))).trans (hb.mono (Nat.le_of_lt HW.out)))
  clear hal hb
  go_wp2_with fail
  go_ret
  have hil:=HIN.out.le
  refine ⟨p2,c2,by first | (rw [insL_len_miss hil];done) | (rw [insL_len_miss hil];rfl),?_,HB3.out⟩
  exact HO2.out.lower (Nat.le_of_lt HW.out)
theorem own_eput (w : World) (L : List RnT) (x0 : RnT) (pp : Option Addr) (cc : Nat) (i : Nat) (hit : Bool) (hR : RowX encN 6 w pp L) (hok : OrdOk rnE (·.ef) (L.map (·.1))) (hx : 1 ≤ x0.1.ef ∧ x0.1.ef ≤ 1048576) (hb9 : Belongs (keyAt (·.ef) (L.map (·.1))) L.length x0.1.ef i hit) :
    Calls Tryz.prog 33 #[.slice pp L.length cc,.agg #[.int .i64 (x0.1.ef),.slice x0.2.1 x0.2.2.1 x0.2.2.2,.int .i64 (x0.1.ce),.int .i64 (x0.1.cr),.int .i64 (x0.1.cd),.int .i64 (x0.1.cl)]] w fun e w' => ∃ p c,e = .returned (.slice p (insL L i hit x0).length c) ∧ OwnR encN 6 w.heap.size 68 w' p c (insL L i hit x0) ∧ Below w.heap.size w w':=by
  cases hit with
  | true => exact own_eput_hit w L x0 pp cc i hR hok hx hb9
  | false => exact own_eput_new w L x0 pp cc i hR hok hx hb9
end Go.Proofs.YtbeojahilbglcaaGreatDoor
set_option maxRecDepth 100000
set_option maxHeartbeats 8000000
namespace Go.Proofs.YtbeojahilbglcaaGreatDoor
open Go.RowKit Go.Shelf Lum
attribute [local go_sem] Oper.semAt_some
theorem all1_in (F : Fence) (n : Nat) (hf : F.fn 142) (hro : F.round = none) (hn : 1 ≤ n) (l Bs n₀ b off cap : Nat) (ps : List Int) (hlen : ps.length ≤ 1000000000) (hb : b < n₀) (J Jx : List (Fin ps.length) → World → Prop)
    (hY:∀ pre x W,J pre W → pre.length < ps.length → YieldAt F (n - 1) Tryz.prog l #[.int .i64 (x.1:Int),.int .i64 (inI ps x.1)] W fun e W' =>
      (e = .returned (.bool true) ∧ J (pre ++ [x]) W' ∧ KeepB n₀ Bs W W') ∨ (e = .returned (.bool false) ∧ Jx (pre ++ [x]) W'))
    (W:World) (hBs:Boxed W Bs 25 (.slice (some ⟨b,off,none⟩) ps.length cap))
    (hc:∀ j,j < ps.length → W.cell? ⟨b,off + j,none⟩ = some (.int .i64 (inI ps j))) (h0:J [] W) :
    CallsIn F n Tryz.prog 142 #[.func (.yield l) #[] #[], .pointer (some ⟨Bs, 0, none⟩)] W fun e W' => (∃ v, e = .returned v) ∧
      ((∃ ys,ys = upF ps.length ps.length ∧ J ys W') ∨ (∃ pre,(∃ k,k ≤ ps.length ∧ pre = upF ps.length k) ∧ Jx pre W')):=by
  refine callsIn_of_wp Tryz.func142 rfl hf ?_ hro
  simp only [Tryz.ntmps142,List.size_toArray,List.length_cons,List.length_nil,Nat.reduceAdd,Nat.reduceSub,Array.replicate_succ,Array.replicate_zero,List.push_toArray,List.append_toArray,List.nil_append,List.cons_append]
  have hBc:=hBs.cell
  gi_wp2
  gi_loopw [7] (fun i wr => ∃ k r : Nat, Hid (k + r = ps.length) ∧ i = .int .i64 (k : Int) ∧ J (upF ps.length k) wr ∧ KeepB n₀ Bs W wr)
    (fun i _ => ps.length - (intOf i).toNat)
  case atStart => exact ⟨0,ps.length,Lib.hid (by omega),rfl,by rw [upF_zero];exact h0,KeepB.refl _ _ _⟩
  case round =>
    obtain ⟨k,r,hk,rfl,hJs,hnx⟩:=hrel
    cases r with
    | zero =>
      have hlt:¬ ((k:Int) < (ps.length:Int)):=by have:=hk.out;omega
      gi_wp2
      go_end0
      have hkl:k = ps.length:=hk.out
      rw [hkl] at hJs
      first | exact ⟨⟨_,rfl⟩,.inl ⟨_,rfl,hJs⟩⟩ | exact ⟨⟨_,rfl⟩,.inl hJs⟩
    | succ m =>
      have hm:k < ps.length:=by have:=hk.out;omega
      have hlt:(k:Int) < (ps.length:Int):=by omega
      have hk0:(0:Int) ≤ (k:Int):=by omega
      have d1:=(hnx.1.cell (p:=⟨b,off + k,none⟩) hb).trans (hc k hm)
      have hun:IntKind.i64.wrap ((k:Int) + 1) = (k:Int) + 1:=IntWalk.i64_in _ (by omega)
      have hsn:=Lib.hid (upF_succ ps.length k hm)
      obtain ⟨fn,tmps,assign,body,hy,hR⟩:=hY _ ⟨k,hm⟩ wr hJs (by rw [upF_length _ _ (by omega)];exact hm)
      dsimp only at hy
      gi_wp2
      refine hR.mono ?_
      rintro e W3 (⟨rfl,hJ3,hk3⟩ | ⟨rfl,hJx3⟩)
      · gi_wp2
        go_roundw
        case rel => exact ⟨k + 1,m,Lib.hid (by have:=hk.out;omega),by first | rfl | simp,by rw [hsn.out];exact hJ3,hnx.t hk3⟩
        case measure => first | (simp [intOf];done) | (simp [intOf];omega)
      · gi_wp2
        refine bodyPost_ret (results_none rfl _ _ _) rfl ?_
        exact ⟨⟨_,rfl⟩,.inr ⟨_,⟨k + 1,by omega,hsn.out.symm⟩,hJx3⟩⟩
theorem all_in (F : Fence) (n : Nat) (hf : F.fn 101) (hro : F.round = none) (a : Option Addr) (len cap : Nat) (w : World) :
    CallsIn F n Tryz.prog 101 #[.slice a len cap] w fun e w' => e = .returned (.func (.func 142) #[] #[.pointer (some ⟨w.heap.size,0,none⟩)]) ∧ w' = w.alloc (.cells #[.slice a len cap] 25):=by
  refine callsIn_of_wp Tryz.func101 rfl hf ?_ hro
  simp only [Tryz.ntmps101,List.size_toArray,List.length_cons,List.length_nil,Nat.reduceAdd,Nat.reduceSub,Array.replicate_succ,Array.replicate_zero,List.push_toArray,List.append_toArray,List.nil_append,List.cons_append]
  gi_wp2
  go_ret
  exact ⟨rfl,rfl⟩
theorem all_stops (F : Fence) (n : Nat) (hf : F.fn 142) (hro : F.round = none) (hn : 1 ≤ n) (Bs n₀ : Nat) (sv : Value) (ps : List Int) (hlen : ps.length ≤ 1000000000) (hne : ps ≠ []) (w : World) (hn₀ : n₀ ≤ w.heap.size)
    (hc:Boxed w Bs 25 sv) (W0:World) (hI:IntsAt W0 sv ps) (hW0:W0.heap.size = n₀) (hb0:Below n₀ W0 w) :
    SeqStopsK F n Tryz.prog 142 #[.pointer (some ⟨Bs, 0, none⟩)] (fun x : Fin ps.length => #[.int .i64 (x.1 : Int), .int .i64 (inI ps x.1)]) (KeepB n₀ Bs) (fun ys => ys = upF ps.length ps.length)
      (fun pre => ∃ k,k ≤ ps.length ∧ pre = upF ps.length k) ps.length w:=fun l J Jx W hW _ _ hY h0 => by
  have hc':Boxed W Bs 25 sv:=(hW.block Bs hc.lt).trans hc
  have hbw:=hb0.trans (hW.mono hn₀)
  subst hW0
  obtain ⟨p,cap,rfl,h⟩:=hI
  obtain ⟨b,off,rfl,hb,hcs⟩:=h hne
  exact all1_in F n hf hro hn l Bs _ b off cap ps hlen hb J Jx hY W hc' (fun j hj => (hbw.cell (p:=⟨b,off + j,none⟩) hb).trans (hcs j hj)) h0
theorem members_in (F : Fence) (n : Nat) (hf : F.fn 57) (hf2 : F.fn 101) (hro : F.round = none) (hn : 1 ≤ n) (ef ce cr cd cl : Int) (a : Option Addr) (len cap : Nat) (w : World) :
    CallsIn F n Tryz.prog 57 #[.agg #[.int .i64 ef,.slice a len cap,.int .i64 ce,.int .i64 cr,.int .i64 cd,.int .i64 cl]] w fun e w' => ∃ B,e = .returned (.func (.func 142) #[] #[.pointer (some ⟨B,0,none⟩)]) ∧ w.heap.size ≤ B ∧ Boxed w' B 25 (.slice a len cap) ∧ Below w.heap.size w w':=by
  refine callsIn_of_wp Tryz.func57 rfl hf ?_ hro
  simp only [Tryz.ntmps57,List.size_toArray,List.length_cons,List.length_nil,Nat.reduceAdd,Nat.reduceSub,Array.replicate_succ,Array.replicate_zero,List.push_toArray,List.append_toArray,List.nil_append,List.cons_append]
  gi_wp2_with (gi_at_call 101;refine (all_in F (n - 1) hf2 hro _ _ _ _).mono ?_;rintro e w' ⟨rfl,rfl⟩)
  go_ret
  exact ⟨_,rfl,by simp,by simpa using Boxed.new (w.alloc (.cells #[.int .i64 ef,.slice a len cap,.int .i64 ce,.int .i64 cr,.int .i64 cd,.int .i64 cl] 68)) 25 (.slice a len cap),((Below.refl w.heap.size w).alloc (Nat.le_refl _) _).alloc (by simp) _⟩
end Go.Proofs.YtbeojahilbglcaaGreatDoor
namespace Lum
open Go Go.RowKit Go.Shelf
open Go.Lib (decDigits itoa)
theorem IntsAt.len {W:World} {p:Option Addr} {n c:Nat} {l:List Int} (h:IntsAt W (.slice p n c) l):n = l.length:=by
  obtain ⟨p',c',e,-⟩:=h
  injection e
theorem IntsAt.take {W:World} {p:Option Addr} {n c:Nat} {l:List Int} (h:IntsAt W (.slice p n c) l) {i:Nat} (hi:i ≤ l.length):IntsAt W (.slice p i c) (l.take i):=by
  obtain ⟨p',c',e,h2⟩:=h
  injection e with e1 e2 e3
  subst e1 e3
  have hl:(l.take i).length = i:=by rw [List.length_take];omega
  refine ⟨p,c,by rw [hl],fun hn => ?_⟩
  obtain ⟨b,o,hp,hb,hc⟩:=h2 (fun e => hn (by rw [e];simp))
  refine ⟨b,o,hp,hb,fun j hj => ?_⟩
  rw [hl] at hj
  have:=hc j (by omega)
  rw [this]
  unfold inI
  rw [List.getElem?_take,if_pos hj]
def chX (l:List Int) (i:Nat):Int:=if inI l i < 1 ∨ 999 < inI l i then 2 else if (l.take i).contains (inI l i) = true then 7 else 0
theorem chX_out {l:List Int} {i:Nat} (h:inI l i < 1 ∨ 999 < inI l i):chX l i = 2:=by unfold chX;rw [if_pos h]
theorem chX_two {l:List Int} {i:Nat} (h:¬ (inI l i < 1 ∨ 999 < inI l i)) (h2:(l.take i).contains (inI l i) = true):chX l i = 7:=by unfold chX;rw [if_neg h,if_pos h2]
theorem chX_ok {l:List Int} {i:Nat} (h:¬ (inI l i < 1 ∨ 999 < inI l i)) (h2:(l.take i).contains (inI l i) = false):chX l i = 0:=by unfold chX;rw [if_neg h,if_neg (by rw [h2];decide)]
theorem chF_eq (l:List Int) (n i:Nat):chF l (n + 1) i = if chX l i ≠ 0 then chX l i else chF l n (i + 1):=by
  by_cases h:inI l i < 1 ∨ 999 < inI l i
  · rw [chX_out h,chF_out h,if_pos (by decide)]
  · by_cases h2:(l.take i).contains (inI l i) = true
    · rw [chX_two h h2,chF_two h h2,if_pos (by decide)]
    · have h3:(l.take i).contains (inI l i) = false:=by simpa using h2
      rw [chX_ok h h3,chF_go h h3,if_neg (by simp)]
theorem chF_all {l:List Int}:∀ (n i:Nat),(∀ j,i ≤ j → j < i + n → chX l j = 0) → chF l n i = 0:=by
  intro n
  induction n with
  | zero => intro i _;rfl
  | succ n ih => intro i h;rw [chF_eq,if_neg (by rw [h i (by omega) (by omega)];simp)];exact ih (i + 1) fun j h1 h2 => h j (by omega) (by omega)
theorem chF_first {l:List Int} {k:Nat}:∀ (n i:Nat),i ≤ k → k < i + n → (∀ j,i ≤ j → j < k → chX l j = 0) → chX l k ≠ 0 → chF l n i = chX l k:=by
  intro n
  induction n with
  | zero => intro i h1 h2;omega
  | succ n ih =>
    intro i h1 h2 h3 h4
    by_cases e:i = k
    · subst e;rw [chF_eq,if_pos h4]
    · rw [chF_eq,if_neg (by rw [h3 i (by omega) (by omega)];simp)]
      exact ih (i + 1) (by omega) (by omega) (fun j a b => h3 j (by omega) b) h4
theorem upF_memk {n k:Nat} {i:Fin n} (h:i.1 < k):i ∈ upF n k:=by
  have:i = (List.finRange n)[i.1]'(by simp):=by simp
  unfold upF
  rw [List.mem_take_iff_getElem]
  exact ⟨i.1,by simp;omega,by simp⟩
end Lum
namespace Go.Proofs.YtbeojahilbglcaaGreatDoor
open Go.RowKit Go.Shelf Lum
open Go.Lib (decDigits itoa)
attribute [local go_sem] Oper.semAt_some bs_get bs_extract_end bs_extract_from bs_extract bs_append
theorem own_erun0 (ef ce cr cd cl : Int) (cs : List Int) (p : Option Addr) (c : Nat) (w : World) (hv : IntsAt w (.slice p cs.length c) cs) (hcap : cs.length ≤ c) :
    Calls Tryz.prog 32 #[.agg #[.int .i64 ef,.slice p cs.length c,.int .i64 ce,.int .i64 cr,.int .i64 cd,.int .i64 cl]] w fun e w' => e = .returned (.int .i64 (rnE ⟨ef,cs,ce,cr,cd,cl⟩)) ∧ Below w.heap.size w w':=by
  have hb0:=((Below.refl w.heap.size w).alloc (Nat.le_refl _) (.cells #[.int .i64 ef,.slice p cs.length c,.int .i64 ce,.int .i64 cr,.int .i64 cd,.int .i64 cl] 68)).alloc (by simp) (.cells #[.int .i64 0] 28)
  have hk0:=(Blk.new w 68 #[.int .i64 ef,.slice p cs.length c,.int .i64 ce,.int .i64 cr,.int .i64 cd,.int .i64 cl]).alloc (.cells #[.int .i64 0] 28)
  have he0:=Blk.new (w.alloc (.cells #[.int .i64 ef,.slice p cs.length c,.int .i64 ce,.int .i64 cr,.int .i64 cd,.int .i64 cl] 68)) 28 #[.int .i64 0]
  rw [World.size_alloc] at he0
  have HB:=Lib.hid hb0;have HK:=Lib.hid hk0;have HE:=Lib.hid he0;clear hk0 he0
  obtain ⟨k0,k1,k2,k3,k4,k5,kf0,kf1,kf2,kf3,kf4,kf5⟩:=HK.out.c6
  obtain ⟨e0,ef0⟩:=HE.out.c1
  have HB0:=HB
  by_cases o0:ef < 1
  · rw [rnE_ef (x:=⟨ef,cs,ce,cr,cd,cl⟩) (by dsimp only;omega)]
    clear hv
    go_enter Tryz.func32,Tryz.ntmps32
    go_wp2_with fail
    refine bodyPost_ret_by (v:=.int .i64 (2)) (by simp [results,Tryz.f32,go_sem,e0,ef0]) rfl ⟨rfl,by first | exact HB.out.setCell (p:=⟨w.heap.size + 1,0,none⟩) (by simp) _ | exact ((Below.refl w.heap.size w).alloc (Nat.le_refl _) _).alloc (by simp) _⟩
  by_cases o1:1048576 < ef
  · rw [rnE_ef (x:=⟨ef,cs,ce,cr,cd,cl⟩) (by dsimp only;omega)]
    clear hv
    go_enter Tryz.func32,Tryz.ntmps32
    go_wp2_with fail
    refine bodyPost_ret_by (v:=.int .i64 (2)) (by simp [results,Tryz.f32,go_sem,e0,ef0]) rfl ⟨rfl,by first | exact HB.out.setCell (p:=⟨w.heap.size + 1,0,none⟩) (by simp) _ | exact ((Below.refl w.heap.size w).alloc (Nat.le_refl _) _).alloc (by simp) _⟩
  have ho:¬ (ef < 1 ∨ 1048576 < ef):=by omega
  by_cases hz:cs.length = 0
  · rw [rnE_ch (x:=⟨ef,cs,ce,cr,cd,cl⟩) ho (by show ¬ chE cs = 0;rw [chE_no hz];decide)]
    rw [show chE (Rnx.cs ⟨ef,cs,ce,cr,cd,cl⟩) = 12 from chE_no hz]
    rw [hz] at *
    clear hv ho
    go_enter Tryz.func32,Tryz.ntmps32
    go_wp2_with fail
    refine bodyPost_ret_by (v:=.int .i64 (12)) (by simp [results,Tryz.f32,go_sem,e0,ef0]) rfl ⟨rfl,by first | exact HB.out.setCell (p:=⟨w.heap.size + 1,0,none⟩) (by simp) _ | exact ((Below.refl w.heap.size w).alloc (Nat.le_refl _) _).alloc (by simp) _⟩
  · by_cases hy:256 < cs.length
    · rw [rnE_ch (x:=⟨ef,cs,ce,cr,cd,cl⟩) ho (by show ¬ chE cs = 0;rw [chE_many hy];decide)]
      rw [show chE (Rnx.cs ⟨ef,cs,ce,cr,cd,cl⟩) = 5 from chE_many hy]
      have hz1:((cs.length:Int) == 0) = false:=by rw [beq_eq_false_iff_ne];omega
      have hz2:(256:Int) < (cs.length:Int):=by omega
      clear hv ho
      go_enter Tryz.func32,Tryz.ntmps32
      go_wp2_with fail
      refine bodyPost_ret_by (v:=.int .i64 (5)) (by simp [results,Tryz.f32,go_sem,e0,ef0]) rfl ⟨rfl,by first | exact HB.out.setCell (p:=⟨w.heap.size + 1,0,none⟩) (by simp) _ | exact ((Below.refl w.heap.size w).alloc (Nat.le_refl _) _).alloc (by simp) _⟩
    · have hne:cs ≠ []:=fun h => by subst h;exact hz rfl
      have h256:cs.length ≤ 256:=by omega
      have hz1:((cs.length:Int) == 0) = false:=by rw [beq_eq_false_iff_ne];omega
      have hz2:¬ (256:Int) < (cs.length:Int):=by omega
      have hcc:=fun W => own_clk_check ce cr cd cl W
      have HI:=Lib.hid hv;clear hv
      obtain ⟨p0,c0,epc,hp2⟩:=HI.out
      injection epc with ep1 ep2 ep3
      subst ep1 ep3
      obtain ⟨b,o,rfl,-,-⟩:=hp2 hne
      clear hp2 ep2
      have HCC:=Lib.hid hcc;clear hcc
      refine (callsIn_wide (n:=5)).1 ?_
      refine callsIn_of_wp_marks Tryz.func32 rfl trivial ?_ rfl
      simp only [Tryz.ntmps32,List.size_toArray,List.length_cons,List.length_nil,Nat.reduceAdd,Nat.reduceSub,Array.replicate_succ,Array.replicate_zero,List.push_toArray,List.append_toArray,List.nil_append,List.cons_append]
      gi_wp2_with (refine ⟨trivial,?_⟩;gi_at_call 57;refine (members_in Fence.wide 4 trivial trivial rfl (by omega) _ _ _ _ _ _ _ _ _).mono ?_;rintro e w' ⟨B,rfl,hle,hbox,hb⟩;have hs0:=HE.out.lt;replace HK:=Lib.hid (HK.out.keep hb);replace HE:=Lib.hid (HE.out.keep hb);replace HB:=Lib.hid (bch' HB.out hb);clear hb k0 kf0 k1 kf1 k2 kf2 k3 kf3 k4 kf4 k5 kf5 e0 ef0;obtain ⟨k0,k1,k2,k3,k4,k5,kf0,kf1,kf2,kf3,kf4,kf5⟩:=HK.out.c6;obtain ⟨e0,ef0⟩:=HE.out.c1)
      have hBlt:=hbox.lt
      obtain ⟨W0,hW0⟩:∃ W0,W0 = w':=⟨_,rfl⟩
      subst hW0
      have hBne:w.heap.size + 1 < B:=by simp at hle;omega
      refine' wpIn_rangeFunc_ownG (n := 5) rfl (by omega) (Kp := KeepB w.heap.size B) (gf := 142) (lb := #[.pointer (some ⟨B, 0, none⟩)]) rfl trivial (enters_of Tryz.func142 (by kernel_rfl) rfl)
        (all_stops Fence.wide 4 trivial rfl (by omega) B w.heap.size _ cs (by omega) hne _ HB.out.size hbox w HI.out rfl HB.out) KeepB.t (KeepB.b HB.out.size hBlt) (Below.refl _ _) (fun _ => rfl)
        (fun pre W => ((∀ i ∈ pre,chX cs i.1 = 0) ∧ Blk W w.heap.size 68 #[.int .i64 ef,.slice (some ⟨b,o,none⟩) cs.length c,.int .i64 ce,.int .i64 cr,.int .i64 cd,.int .i64 cl] ∧ Blk W (w.heap.size + 1) 28 #[.int .i64 0]) ∧ Below w.heap.size w W ∧ W0.heap.size ≤ W.heap.size)
        (fun cd_ pre W => (cd_ = .ret ∧ ∃ ini last,pre = ini ++ [last] ∧ (∀ i ∈ ini,chX cs i.1 = 0) ∧ chX cs last.1 ≠ 0 ∧ Blk W (w.heap.size + 1) 28 #[.int .i64 (chX cs last.1)]) ∧ Below w.heap.size w W)
        (OwnFrom.and (Own.from (fun s A B row hs hg hr => ⟨hs.1,blk_own w.heap.size 68 (fun _:Unit => _) () A B row hs.2.1 hg hr,blk_own (w.heap.size + 1) 28 (fun _:Unit => _) () A B row hs.2.2 hg hr⟩) _) (OwnFrom.and (ownFrom_below (Nat.le_refl _) HB.out.size) ownFrom_size))
        (fun cd_ => OwnFrom.and (Own.from (fun s A B row hs hg hr => by obtain ⟨hc,ini,last,e1,e2,e3,e4⟩:=hs;exact ⟨hc,ini,last,e1,e2,e3,blk_own (w.heap.size + 1) 28 (fun _:Unit => _) () A B row e4 hg hr⟩) _) (ownFrom_below (Nat.le_refl _) HB.out.size))
        ⟨⟨by simp,HK.out,HE.out⟩,HB.out,Nat.le_refl _⟩ _ ?assign ?body ?done ?stop
      case assign =>
        intro l' x W K hK
        gi_wp2
        exact hK
      case body =>
        rintro l' pre x W ⟨⟨hp,bK,bE⟩,hBW,hsz⟩ hlt'
        have hx:=x.2
        have HP:=Lib.hid hp;clear hp
        clear HK HE HB HCC k0 kf0 k1 kf1 k2 kf2 k3 kf3 k4 kf4 k5 kf5 e0 ef0
        have HK:=Lib.hid bK;have HE:=Lib.hid bE;clear bK bE
        obtain ⟨k0,k1,k2,k3,k4,k5,kf0,kf1,kf2,kf3,kf4,kf5⟩:=HK.out.c6
        obtain ⟨e0,ef0⟩:=HE.out.c1
        by_cases q0:inI cs x.1 < 1
        · have he:chX cs x.1 = 2:=chX_out (by omega)
          have HX:=Lib.hid he;clear he
          generalize inI cs x.1 = z at *
          gi_wp2
          exact ⟨(KeepsOthers.setCell _ _ _).from _,⟨rfl,pre,x,rfl,HP.out,by rw [HX.out];decide,by rw [HX.out];simpa using HE.out.set_ 0 (.int .i64 2)⟩,hBW.setCell (p:=⟨w.heap.size + 1,0,none⟩) (by simp) _⟩
        by_cases q1:999 < inI cs x.1
        · have he:chX cs x.1 = 2:=chX_out (by omega)
          have HX:=Lib.hid he;clear he
          generalize inI cs x.1 = z at *
          gi_wp2
          exact ⟨(KeepsOthers.setCell _ _ _).from _,⟨rfl,pre,x,rfl,HP.out,by rw [HX.out];decide,by rw [HX.out];simpa using HE.out.set_ 0 (.int .i64 2)⟩,hBW.setCell (p:=⟨w.heap.size + 1,0,none⟩) (by simp) _⟩
        have hin:¬ (inI cs x.1 < 1 ∨ 999 < inI cs x.1):=by omega
        have hxi:(x.1:Int) ≤ (c:Int):=by omega
        have hx0:(0:Int) ≤ (x.1:Int):=by omega
        have hct:=fun W (h:IntsAt W (.slice (some ⟨b,o,none⟩) cs.length c) cs) => int_contains (inI cs x.1) (cs.take x.1) (.slice (some ⟨b,o,none⟩) x.1 c) W (h.take (by omega)) (by rw [List.length_take];omega)
        cases hcv:(cs.take x.1).contains (inI cs x.1)
        · have HX:=Lib.hid (chX_ok hin hcv)
          rw [hcv] at hct
          clear hcv hin
          have HCT:=Lib.hid hct;clear hct
          generalize inI cs x.1 = z at *
          gi_wp2_with (refine ⟨trivial,?_⟩;gi_at_call 79;with_reducible refine (CallsIn.inRound l' (callsIn_wide.2 (HCT.out _ (HI.out.below hBW)))).mono ?_;rintro e w' ⟨rfl,hb⟩;clear e0 ef0;obtain ⟨e2,e3⟩:=(HE.out.keep hb).c1)
          exact ⟨keepsFrom_below hb,(KeepB.refl _ _ W).below hb (by have:=hBW.size;omega) (by omega),⟨fun i hi => (List.mem_append.1 hi).elim (HP.out i) (fun e => by simp at e;subst e;exact HX.out),HK.out.keep hb,HE.out.keep hb⟩,bch' hBW hb,Nat.le_trans hsz hb.size⟩
        · have HX:=Lib.hid (chX_two hin hcv)
          rw [hcv] at hct
          clear hcv hin
          have HCT:=Lib.hid hct;clear hct
          generalize inI cs x.1 = z at *
          gi_wp2_with (refine ⟨trivial,?_⟩;gi_at_call 79;with_reducible refine (CallsIn.inRound l' (callsIn_wide.2 (HCT.out _ (HI.out.below hBW)))).mono ?_;rintro e w' ⟨rfl,hb⟩;clear e0 ef0;obtain ⟨e2,e3⟩:=(HE.out.keep hb).c1)
          exact ⟨(keepsFrom_below hb).trans ((KeepsOthers.setCell _ _ _).from _),⟨rfl,pre,x,rfl,HP.out,by rw [HX.out];decide,by rw [HX.out];simpa using (HE.out.keep hb).set_ 0 (.int .i64 7)⟩,(bch' hBW hb).setCell (p:=⟨w.heap.size + 1,0,none⟩) (by simp) _⟩
      case done =>
        rintro D ys W hD rfl ⟨⟨hne2,bK,bE⟩,hBW,hsz⟩ hK
        have hch:chE cs = 0:=by rw [chE_few (by omega) (by omega)];exact chF_all _ _ fun j _ hj => hne2 ⟨j,by omega⟩ upF_mem
        have HR:Hid (rnE ⟨ef,cs,ce,cr,cd,cl⟩ = ckE ce cr cd cl):=Lib.hid (rnE_ck ho hch)
        clear hne2 HK HE HB k0 kf0 k1 kf1 k2 kf2 k3 kf3 k4 kf4 k5 kf5 e0 ef0
        have HK:=Lib.hid bK;have HE:=Lib.hid bE;clear bK bE
        obtain ⟨k0,k1,k2,k3,k4,k5,kf0,kf1,kf2,kf3,kf4,kf5⟩:=HK.out.c6
        obtain ⟨e0,ef0⟩:=HE.out.c1
        obtain ⟨m,hm⟩:∃ m,m = ckE ce cr cd cl:=⟨_,rfl⟩
        have HM:=Lib.hid hm
        have hcc2:=HCC.out
        rw [← hm] at hcc2
        clear hm HCC
        have HCC:=Lib.hid hcc2;clear hcc2
        gi_wp2_with (refine ⟨trivial,?_⟩;gi_at_call 80;refine (callsIn_wide.2 (HCC.out _)).mono ?_;rintro e w' ⟨rfl,hb⟩;clear e0 ef0;obtain ⟨e2,e3⟩:=(HE.out.keep hb).c1)
        have hKb:=(hb.block D (by have:=(Array.getElem?_eq_some_iff.1 hK).1;exact this)).trans hK
        have hK':=(KeepsOthers.setCell w' ⟨w.heap.size + 1,0,none⟩ (.int .i64 m)).same D _ hKb rfl
        refine ⟨by simp,.inl ⟨_,_,rfl,run_takeDeferred hK',?_⟩⟩
        have hc5:=cell_kept (Blk.boxed (show Blk _ _ 28 #[.int .i64 m] by simpa using (HE.out.keep hb).set_ 0 (.int .i64 m))).cell (grownBy_putObj' _ D (.deferred none)) (fun r e => by cases e;exact ⟨_,hK',rfl⟩)
        refine ⟨.int .i64 m,by simp [results,Tryz.f32,go_sem,hc5],by rw [HR.out,HM.out],((bch' hBW hb).setCell (p:=⟨w.heap.size + 1,0,none⟩) (by simp) _).trans (belowK_b (w:=w) (Nat.le_refl _) _ D _ _ (by have:=HB0.out.size;omega) hK' rfl rfl)⟩
      case stop =>
        rintro D cd_ pre W hD ⟨k,hk,rfl⟩ ⟨⟨rfl,ini,last,e1,e2,e3,bE⟩,hBW⟩ hK
        have hR:rnE ⟨ef,cs,ce,cr,cd,cl⟩ = chX cs last.1:=by
          have hll:=congrArg List.length e1
          rw [upF_length _ _ hk,List.length_append] at hll
          simp at hll
          subst hll
          obtain ⟨a1,a2⟩:=upF_snoc e1.symm (by omega)
          have h3:chE cs = chX cs last.1:=by
            rw [chE_few (by omega) (by omega)]
            refine chF_first _ _ (Nat.zero_le _) (by have:=last.2;omega) (fun j _ hj => e2 ⟨j,by have:=last.2;omega⟩ ?_) e3
            have h9:(⟨j,by have:=last.2;omega⟩:Fin cs.length) ∈ upF cs.length ini.length:=upF_memk (by show j < _;omega)
            rw [← a1] at h9
            exact h9
          rw [rnE_ch ho (by rw [h3];exact e3),h3]
        have HR:=Lib.hid hR;clear hR e1 e2 e3
        obtain ⟨m,hm⟩:∃ m,m = chX cs last.1:=⟨_,rfl⟩
        rw [← hm] at bE
        have HM:=Lib.hid hm;clear hm
        have r5:=Blk.boxed bE
        refine wpIn_ret ?_
        refine ⟨by simp,.inl ⟨_,_,rfl,run_takeDeferred hK,?_⟩⟩
        have hc5:=cell_kept r5.cell (grownBy_putObj' _ D (.deferred none)) (fun r e => by cases e;exact ⟨_,hK,rfl⟩)
        refine ⟨.int .i64 m,by simp [results,Tryz.f32,go_sem,hc5],by rw [HR.out,HM.out],hBW.trans (belowK_b (w:=w) (Nat.le_refl _) W D _ _ (by have:=HB0.out.size;omega) hK rfl rfl)⟩
theorem own_erun (ef ce cr cd cl : Int) (cs : List Int) (p : Option Addr) (n c : Nat) (w : World) (hv : IntsAt w (.slice p n c) cs) (hcap : cs.length ≤ c) :
    Calls Tryz.prog 32 #[.agg #[.int .i64 ef,.slice p n c,.int .i64 ce,.int .i64 cr,.int .i64 cd,.int .i64 cl]] w fun e w' => e = .returned (.int .i64 (rnE ⟨ef,cs,ce,cr,cd,cl⟩)) ∧ Below w.heap.size w w':=by
  obtain rfl:=hv.len
  exact own_erun0 ef ce cr cd cl cs p c w hv hcap
theorem own_eruns (l : List Rnx) (v : Value) (w : World) (hv : RunsAt w v l) :
    Calls Tryz.prog 10 #[v] w fun e w' => e = .returned (.int .i64 (ordE rnE (·.ef) l)) ∧ Below w.heap.size w w':=by
  obtain ⟨L,p,c,rfl,hL,hR,hH⟩:=hv
  have ho := own_ordN 32 38 L p c (fun x => rnE x.1) (fun x => x.1.ef) w hR (enters_of Tryz.func32 (by kernel_rfl) rfl) (enters_of Tryz.func38 (by kernel_rfl) rfl)
    (fun i hi W hb => own_erun _ _ _ _ _ _ _ _ _ W (IntsAt.below (hH _ (List.getElem_mem hi)).1 hb) (hH _ (List.getElem_mem hi)).2) (fun i hi W _ => own_eeffect _ _ _ _ _ _ _ _ W)
  rw [← ordE_map (fun x => x.1) rnE (fun y => y.ef) L,hL] at ho
  have HO:=Lib.hid ho;clear ho hR hH hL
  generalize ordE rnE _ l = m at *
  have HB:=Lib.hid (Below.refl w.heap.size w)
  go_enter Tryz.func10,Tryz.ntmps10
  go_wp2_with (with_reducible refine (HO.out.mono ?_);rintro e w' ⟨rfl,hb⟩;replace HB:=Lib.hid hb;clear hb)
  go_ret
  exact ⟨rfl,HB.out⟩
end Go.Proofs.YtbeojahilbglcaaGreatDoor
