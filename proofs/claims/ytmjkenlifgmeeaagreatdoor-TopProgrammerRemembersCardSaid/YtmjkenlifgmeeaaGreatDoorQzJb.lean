import Derived.Test.YtmjkenlifgmeeaaGreatDoorQzShelfH
import Derived.Test.YtmjkenlifgmeeaaGreatDoorQzJa
import Derived.Test.YtmjkenlifgmeeaaGreatDoorQzHl
import Derived.Shelf.SlSortCmp.NoneTotal
import Derived.Shelf.SlicesQ.Contains
import Derived.Shelf.SlicesQ.Equal
import Derived.Lib.OwnBridge
import Derived.WalkSmall
set_option maxRecDepth 100000
set_option maxHeartbeats 8000000
set_option linter.unusedVariables false
set_option linter.unusedSimpArgs false
namespace Lum
open Go Go.RowKit Go.Shelf
open Go.Lib (decDigits itoa)
instance:Inhabited Hnd:=⟨⟨0,0,[],0,0,0,0⟩⟩
instance:Inhabited Ent:=⟨⟨0,0,0,0⟩⟩
def BelD (W w':World):Prop:=Below W.heap.size W w' ∧ W.drawn ≤ w'.drawn
theorem BelD.grow {W w':World} (h:BelD W w'):∃ q os',w' = Go.Sort.grow (W.drewN q) os':=by
  obtain ⟨h,h2⟩:=h
  refine ⟨w'.drawn - W.drawn,w'.heap.extract W.heap.size w'.heap.size,?_⟩
  obtain ⟨heap',tape',drawn',os',output'⟩:=w'
  have e1:os' = W.os:=h.os
  have e2:tape' = W.tape:=h.tape
  have e3:output' = W.output:=h.output
  have hs:W.heap.size ≤ heap'.size:=h.size
  have hb:∀ k,k < W.heap.size → heap'[k]? = W.heap[k]?:=h.block
  have h3:W.drawn ≤ drawn':=h2
  subst e1 e2 e3
  have eh:heap' = W.heap ++ heap'.extract W.heap.size heap'.size:=by
    apply Array.ext_getElem?
    intro k
    by_cases hk:k < W.heap.size
    · rw [Array.getElem?_append_left hk];exact hb k hk
    · rw [Array.getElem?_append_right (by omega),Array.getElem?_extract]
      by_cases hk2:k < heap'.size
      · rw [if_pos (by omega)];congr 1;omega
      · rw [if_neg (by omega),Array.getElem?_eq_none (by omega)]
  have ed:W.drawn + (drawn' - W.drawn) = drawn':=by omega
  simp only [Go.Sort.grow,World.drewN,ed]
  congr 1
section
variable {β:Type} [Inhabited β] {enc:β → List Value} {k:Nat}
theorem flatK_list (hk:∀ x,(enc x).length = k) (hk0:0 < k) (d:List β):(Go.Sort.flatK enc k d.toArray).toList = d.flatMap enc:=by
  have hl:(d.flatMap enc).length = d.length * k:=flat_len hk d
  apply List.ext_getElem?
  intro j
  by_cases hj:j < d.length * k
  · have hi:j / k < d.length:=Nat.div_lt_of_lt_mul (by rwa [Nat.mul_comm])
    have ht:j % k < k:=Nat.mod_lt _ hk0
    have hv:(enc (d[j / k]'hi))[j % k]? = some ((enc (d[j / k]'hi))[j % k]'(by rw [hk];exact ht)):=List.getElem?_eq_getElem _
    have h1:=flat_at hk d (j / k) hi (j % k) _ hv
    rw [Nat.div_add_mod'] at h1
    rw [h1]
    have hlt:j < (Go.Sort.flatK enc k d.toArray).size:=by simpa using hj
    rw [Array.getElem?_toList,Array.getElem?_eq_getElem hlt,← getElem!_pos (Go.Sort.flatK enc k d.toArray) _ hlt,Go.Sort.get_flatK _ _ _ _ (by simpa using hj)]
    have ha:d.toArray[j / k]! = d[j / k]'hi:=by rw [getElem!_pos d.toArray (j / k) (by simpa using hi)];simp
    rw [ha,getElem!_pos (enc (d[j / k]'hi)) (j % k) (by rw [hk];exact ht)]
  · rw [List.getElem?_eq_none (by simp;omega),List.getElem?_eq_none (by omega)]
theorem holdsK_own (hk:∀ x,(enc x).length = k) (hk0:0 < k) {base:Nat} {e:TypeId} {W:World} {g c:Nat} {d:List β} (h:OwnR enc k base e W (some ⟨g,0,none⟩) c d) (hn:d ≠ []):Go.Sort.HoldsK enc k W g 0 d.toArray:=by
  intro j hj
  have hj2:j < d.length * k:=by simpa using hj
  refine ⟨?_,h.frozenAt hn _⟩
  rw [Go.Sort.get_flatK enc k d.toArray j (by simpa using hj2)]
  have hi:j / k < d.length:=Nat.div_lt_of_lt_mul (by rwa [Nat.mul_comm])
  have ht:j % k < k:=Nat.mod_lt _ hk0
  have ha:d.toArray[j / k]! = d[j / k]'hi:=by rw [getElem!_pos d.toArray (j / k) (by simpa using hi)];simp
  rw [ha,getElem!_pos (enc (d[j / k]'hi)) (j % k) (by rw [hk];exact ht)]
  have hc:=h.cellsAt hk (List.getElem?_eq_getElem hi) (j % k) _ (List.getElem?_eq_getElem (by rw [hk];exact ht))
  rw [Nat.div_add_mod'] at hc
  rwa [Nat.zero_add]
theorem heap_sortG {w : World} {g n : Nat} {os : Array Obj} {cur : Array Value} {e : TypeId} {fr : Nat × Nat} (F : Array Value) (hb : w.heap[g]? = some (.cells cur e fr)) :
    (Go.Sort.grow (Go.Sort.putRow id (Go.Sort.ahead w n) g 0 F) os).heap[g]? = some (.cells (Go.Sort.putCells id 0 F cur) e fr):=by
  have hg:g < w.heap.size:=(Array.getElem?_eq_some_iff.1 hb).1
  rw [Go.Sort.heap_grow_old _ _ (by simpa using hg)]
  simp [Go.Sort.putRow,Go.Sort.mapBlock,Go.Sort.ahead,Array.getElem?_modify,hb,Go.Sort.onCells]
theorem grown_sortG {w:World} {g n:Nat} {os:Array Obj} (F:Array Value):w.grownBy (Go.Sort.grow (Go.Sort.putRow id (Go.Sort.ahead w n) g 0 F) os) (some g):=by
  refine ⟨rfl,rfl,rfl,by simp,fun k hk hne => ?_⟩
  rw [Go.Sort.heap_grow_old _ _ (by simpa using hk)]
  have:g ≠ k:=fun e => hne (by rw [e])
  simp [Go.Sort.putRow,Go.Sort.mapBlock,Go.Sort.ahead,Array.getElem?_modify,this]
theorem take_putIdG (cur F:Array Value) (h:F.size ≤ cur.size):(Go.Sort.putCells id 0 F cur).toList.take F.size = F.toList:=by
  apply List.ext_getElem?
  intro j
  by_cases hj:j < F.size
  · rw [List.getElem?_take_of_lt hj,Array.getElem?_toList]
    simp [Go.Sort.putCells,hj,show j < cur.size by omega]
  · rw [List.getElem?_take_eq_none (by omega),List.getElem?_eq_none (by simp;omega)]
theorem below_sortG {base:Nat} {W:World} {g n:Nat} {os:Array Obj} {s:Array β} (hg:base ≤ g) (hbase:base ≤ W.heap.size):Below base W (Go.Proofs.sortWorldK enc k W g 0 n s os) :=
  (Below.refl base W).grown (grown_sortG _) hbase fun k hk => by injection hk with hk;subst hk;exact hg
theorem ownR_sortG (hk:∀ x,(enc x).length = k) (hk0:0 < k) {base:Nat} {e:TypeId} {W:World} {g c n:Nat} {os:Array Obj} {d s:List β} (h:OwnR enc k base e W (some ⟨g,0,none⟩) c d) (hn:d ≠ []) (hl:s.length = d.length):OwnR enc k base e (Go.Proofs.sortWorldK enc k W g 0 n s.toArray os) (some ⟨g,0,none⟩) c s:=by
  obtain ⟨g',cur,hp,hg,hb,hc1,hc2,hc3,hc4⟩:=h.to_blk hn
  injection hp with hp
  injection hp with hp
  subst hp
  have h3:d.length * k ≤ c * k:=Nat.mul_le_mul_right _ hc1
  refine OwnR.of_blk hk (heap_sortG (Go.Sort.flatK enc k s.toArray) hb) hg (by omega) hc2 (by simp [Go.Sort.putCells,hc3]) ?_
  have h1:=take_putIdG cur (Go.Sort.flatK enc k s.toArray) (by simp [hl,hc3];exact h3)
  rw [flatK_list hk hk0] at h1
  have h2:s.length * k = (Go.Sort.flatK enc k s.toArray).size:=by simp
  rw [h2,h1]
open Go.Proofs in
theorem sort_gen {P : Program} {ρ : Ren} (L : SlLaysF0.n6 P ρ) (hk : ∀ x, (enc x).length = k) (h1 : ∀ x, ∀ v ∈ enc x, v.oneCell' = true) (hk0 : 0 < k) (aE : ∀ w, (isAgg (ρ.t 24)).run P w = .ok true w) (zE : ∀ w, (Go.sizeOf (ρ.t 24)).run P w = .ok k w)
    (key:β → Int × Int) (cf:β → β → Int) (hcf:∀ x y,cf x y < 0 ↔ ltP (key x) (key y) = true) (g:Nat) (cb:Array Value) (l:List β) (w:World) (p:Option Addr) (c base:Nat) (e:TypeId) (eg:∀ args w,(callFunc g args).run P w = .ok (.enter g args) w)
    (hcmp:∀ W,Below base w W → ∀ x y:β,Calls P g (#[.agg (enc x).toArray,.agg (enc y).toArray] ++ cb) W fun e w' => e = .returned (.int .i64 (cf x y)) ∧ BelD W w') (hO:OwnR enc k base e w p c l) (hn:l.length ≤ 1000000) (hbase:base ≤ w.heap.size) :
    Calls P (ρ.f 6) #[.slice p l.length c,.func (.func g) #[] cb] w fun e2 w' => e2 = .returned (.tuple #[]) ∧ ∃ s,List.Perm s l ∧ (∀ i j (hj:j < s.length) (h:i < j),ltP (key (s[j]'hj)) (key (s[i]'(by omega))) = false) ∧ OwnR enc k base e w' p c s ∧ Below base w w':=by
  have hcl:∀ x y,Go.Proofs.ltOf cf x y = ltP (key x) (key y):=fun x y => by
    unfold Go.Proofs.ltOf
    cases h:ltP (key x) (key y) with
    | true => exact decide_eq_true ((hcf x y).2 h)
    | false => exact decide_eq_false (fun g => by rw [(hcf x y).1 g] at h;cases h)
  have swo : Go.Sort.SWO (Go.Proofs.ltOf cf) := {
    irrefl:=fun x => by rw [hcl];exact ltP_irr _
    trans:=fun x y z h g => by rw [hcl] at *;exact ltP_trans h g
    ntrans:=fun x y z h g => by rw [hcl] at *;rw [ltP_false] at *;omega }
  by_cases h0:l = []
  · subst h0
    refine (AnyF.slices_SortFunc_none L p c (.func (.func g) #[] cb) w).mono fun e2 w' ⟨he,hw⟩ => ⟨he,[],List.Perm.refl _,fun i j hj => absurd hj (Nat.not_lt_zero _),?_,?_⟩
    · subst hw;exact hO
    · subst hw;exact Below.refl _ _
  · obtain ⟨b,cur,rfl,hg,-⟩:=hO.to_blk h0
    have hlt:=(hO.lt _ rfl).2
    have hs:l.toArray.size = l.length:=by simp
    have h:=AnyQ.slices_SortFunc L k aE zE enc hk h1 cf swo g cb b 0 c l.toArray w eg (fun m os dk _ x y => (hcmp _ (below_sortG hg hbase) x y).mono fun e w' ⟨ha,hb⟩ => ⟨ha,hb.grow⟩) (holdsK_own hk hk0 hO h0) hlt (by rw [hs];omega)
    rw [hs] at h
    refine h.mono fun e2 w' ⟨he,d',n,os,hp,hsd,hw⟩ => ⟨he,d'.toList,?_,fun i j hj hij => ?_,?_,?_⟩
    · have h1:=hp.2.2
      rw [← hs,Array.extract_size] at h1
      have h2:d'.size = l.toArray.size:=hp.1
      rw [← h2,Array.extract_size] at h1
      simpa using h1
    · have h2:d'.size = l.toArray.size:=hp.1
      have hj2:j < d'.size:=by simpa using hj
      have:=hsd i j (Nat.zero_le _) hij (by rw [← hs,← h2];exact hj2)
      rw [hcl,getElem!_pos d' j hj2,getElem!_pos d' i (by omega)] at this
      simpa using this
    · have h3:=ownR_sortG (n:=n) (os:=os) (s:=d'.toList) hk hk0 hO h0 (by have:d'.size = l.toArray.size:=hp.1;simpa using this)
      rw [Array.toArray_toList] at h3
      rw [hw];exact h3
    · rw [hw];exact below_sortG hg hbase
end
theorem elemsX {β:Type} [Inhabited β] {enc:β → List Value} {k:Nat} {W:World} {b o:Nat} {l:List β} (h:∀ i (hi:i < l.length) j v,(enc (l[i]'hi))[j]? = some v → W.cell? ⟨b,o + i * k + j,none⟩ = some v):∀ j,j < l.length → ∀ i v,(enc l[j]!)[i]? = some v → W.cell? ⟨b,o + j * k + i,none⟩ = some v:=by
  intro j hj i v hv
  rw [getElem!_pos l j hj] at hv
  exact h j hj i v hv
end Lum
namespace Go.Proofs.YtmjkenlifgmeeaaGreatDoor
open Go.RowKit Go.Shelf Lum Go.Lib
attribute [local go_sem] bs_get bs_extract_end bs_extract_from bs_extract bs_append
theorem own_pownD (ch a : Int) (fr : Txt) (pa lv st ti : Int) (w : World) :
    Calls Tryz.prog 34 #[.agg #[.int .i64 ch,.int .i64 a,.string ⟨fr.toArray⟩,.int .i64 pa,.int .i64 lv,.int .i64 st,.int .i64 ti]] w fun e w' => e = .returned (.agg #[.int .i64 ch,.int .i64 a]) ∧ BelD w w':=by
  have hal:=((Below.refl w.heap.size w).alloc (Nat.le_refl _) (.cells #[.int .i64 ch,.int .i64 a,.string ⟨fr.toArray⟩,.int .i64 pa,.int .i64 lv,.int .i64 st,.int .i64 ti] 77)).alloc (by simp) (.cells #[.int .i64 0,.int .i64 0] 34)
  have HB:=Lib.hid hal;clear hal
  have HX:=Lib.hid ((Blk.new w 77 #[.int .i64 ch,.int .i64 a,.string ⟨fr.toArray⟩,.int .i64 pa,.int .i64 lv,.int .i64 st,.int .i64 ti]).alloc (.cells #[.int .i64 0,.int .i64 0] 34))
  have hA:=Blk.new (w.alloc (.cells #[.int .i64 ch,.int .i64 a,.string ⟨fr.toArray⟩,.int .i64 pa,.int .i64 lv,.int .i64 st,.int .i64 ti] 77)) 34 #[.int .i64 0,.int .i64 0]
  rw [World.size_alloc] at hA
  have HR:=Lib.hid hA;clear hA
  obtain ⟨x0,x1,x2,x3,x4,x5,x6,xf0,xf1,xf2,xf3,xf4,xf5,xf6⟩:=HX.out.c7
  obtain ⟨r0,r1,rf0,rf1⟩:=HR.out.c2
  go_enter Tryz.func34,Tryz.ntmps34
  go_wp2_with fail
  refine bodyPost_ret_by (v:=.agg #[.int .i64 ch,.int .i64 a]) (by simp [results,Tryz.f34,go_sem,r0,r1,rf0,rf1]) rfl ⟨rfl,?_⟩
  refine ⟨?_,Nat.le_refl _⟩
  first | exact ((HB.out.setCell (p:=⟨w.heap.size + 1,0,none⟩) (by simp) _).setCell (p:=⟨w.heap.size + 1,1,none⟩) (by simp) _) | exact ((Below.refl _ _).alloc (Nat.le_refl _) _).alloc (by simp) _
theorem own_pcompareD (x y z u : Int) (w : World) :
    Calls Tryz.prog 52 #[.agg #[.int .i64 x,.int .i64 y],.agg #[.int .i64 z,.int .i64 u]] w fun e w' => e = .returned (.int .i64 (cpP (x,y) (z,u))) ∧ BelD w w':=by
  have hal:=((Below.refl w.heap.size w).alloc (Nat.le_refl _) (.cells #[.int .i64 x,.int .i64 y] 34)).alloc (by simp) (.cells #[.int .i64 z,.int .i64 u] 34)
  have HB:=Lib.hid hal;clear hal
  have HX:=Lib.hid ((Blk.new w 34 #[.int .i64 x,.int .i64 y]).alloc (.cells #[.int .i64 z,.int .i64 u] 34))
  have hA:=Blk.new (w.alloc (.cells #[.int .i64 x,.int .i64 y] 34)) 34 #[.int .i64 z,.int .i64 u]
  rw [World.size_alloc] at hA
  have HZ:=Lib.hid hA;clear hA
  go_enter Tryz.func52,Tryz.ntmps52
  go_upto_region 1 with fail
  obtain ⟨W2,hW2⟩:∃ X,X = (w.alloc (.cells #[.int .i64 x,.int .i64 y] 34)).alloc (.cells #[.int .i64 z,.int .i64 u] 34):=⟨_,rfl⟩
  have HDR:Hid (w.drawn ≤ W2.drawn):=Lib.hid (by rw [hW2];exact Nat.le_refl _)
  rw [← hW2] at HB HX HZ ⊢
  clear hW2
  obtain ⟨p0,p1,pf0,pf1⟩:=HX.out.c2
  obtain ⟨q0,q1,qf0,qf1⟩:=HZ.out.c2
  have hl2:w.heap.size + 2 ≤ W2.heap.size:=by have:=HZ.out.lt;omega
  obtain ⟨SS,hSS⟩:∃ SS:World → Prop,∀ W',SS W' ↔ BelD W2 W':=⟨fun W' => BelD W2 W',fun _ => Iff.rfl⟩
  have HBO:Hid (∀ W',SS W' → (W'.cell? ⟨w.heap.size,0,none⟩ = some (.int .i64 x) ∧ W'.cell? ⟨w.heap.size,1,none⟩ = some (.int .i64 y) ∧ W'.cell? ⟨w.heap.size + 1,0,none⟩ = some (.int .i64 z) ∧ W'.cell? ⟨w.heap.size + 1,1,none⟩ = some (.int .i64 u) ∧ SS W')):=Lib.hid fun W' hs => by have h1:=((hSS W').1 hs).1;exact ⟨(h1.cell (p:=⟨w.heap.size,0,none⟩) (by show w.heap.size < _;omega)).trans p0,(h1.cell (p:=⟨w.heap.size,1,none⟩) (by show w.heap.size < _;omega)).trans p1,(h1.cell (p:=⟨w.heap.size + 1,0,none⟩) (by show w.heap.size + 1 < _;omega)).trans q0,(h1.cell (p:=⟨w.heap.size + 1,1,none⟩) (by show w.heap.size + 1 < _;omega)).trans q1,hs⟩
  have HS1:Hid (SS W2):=Lib.hid ((hSS _).2 ⟨Below.refl _ _,Nat.le_refl _⟩)
  have HKA:Hid (∀ A c,SS A → SS (A.alloc c)):=Lib.hid fun A c hs => (hSS _).2 ⟨bch' ((hSS A).1 hs).1 ((Below.refl _ _).alloc (Nat.le_refl _) _),((hSS A).1 hs).2⟩
  have HKD:Hid (∀ A,SS A → SS A.drew):=Lib.hid fun A hs => (hSS _).2 ⟨((hSS A).1 hs).1.drew,Nat.le_succ_of_le ((hSS A).1 hs).2⟩
  have HFI:Hid (∀ A,SS A → BelD w A):=Lib.hid fun A hs => ⟨bch' HB.out ((hSS A).1 hs).1,Nat.le_trans HDR.out ((hSS A).1 hs).2⟩
  have hc1:=fun W => cmp_cmp x z W
  have hc2:=fun W => cmp_cmp y u W
  have hor:=fun W:World => cmp_or (sgI x z) (sgI y u) W.heap.size 2 (W.alloc (.cells #[.int .i64 (sgI x z),.int .i64 (sgI y u)] 3)) (by simp) (by simp)
  have hor2:=fun W:World => cmp_or (sgI x z) (sgI y u) W.heap.size 2 (W.alloc (.cells #[.int .i64 (sgI x z),.int .i64 (sgI y u)] 3)).drew (by simp) (by simp)
  have HE:Hid (cpP (x,y) (z,u) = if sgI x z ≠ 0 then sgI x z else sgI y u):=Lib.hid rfl
  generalize (if sgI x z ≠ 0 then sgI x z else sgI y u) = r at *
  generalize sgI x z = s1 at *
  generalize sgI y u = s2 at *
  have HC1:=Lib.hid hc1;have HC2:=Lib.hid hc2;have HOR:=Lib.hid hor;have HOR2:=Lib.hid hor2
  clear hc1 hc2 hor hor2 hSS hl2 HX HZ HB p0 p1 q0 q1 pf0 pf1 qf0 qf1
  go_region_held3 (fun W' => W'.cell? ⟨w.heap.size,0,none⟩ = some (.int .i64 x) ∧ W'.cell? ⟨w.heap.size,1,none⟩ = some (.int .i64 y) ∧ W'.cell? ⟨w.heap.size + 1,0,none⟩ = some (.int .i64 z) ∧ W'.cell? ⟨w.heap.size + 1,1,none⟩ = some (.int .i64 u) ∧ SS W') (with_reducible refine HBO.out _ ?_;((repeat (first | with_reducible refine HKA.out _ _ ?_ | with_reducible refine HKD.out _ ?_));with_reducible exact HS1.out)) (first | (go_at_call 109;first | (with_reducible refine (HC1.out _).mono ?_;rintro e w9 ⟨rfl,rfl⟩) | (with_reducible refine (HC2.out _).mono ?_;rintro e w9 ⟨rfl,rfl⟩)) | (go_at_call 108;first | (with_reducible refine (HOR.out _).mono ?_;rintro e w9 ⟨rfl,rfl⟩) | (with_reducible refine (HOR2.out _).mono ?_;rintro e w9 ⟨rfl,rfl⟩)))
  all_goals (go_wp2_with fail;go_ret)
  all_goals exact ⟨by first | (rw [HE.out];done) | (rw [HE.out];rfl),HFI.out _ (by ((repeat (first | with_reducible refine HKA.out _ _ ?_ | with_reducible refine HKD.out _ ?_));with_reducible exact HS1.out))⟩
theorem cmp_hd (x y : Hnd) (B : Nat) (w : World) (hB : B < w.heap.size) (hc : w.cell? ⟨B, 0, none⟩ = some (.func (.func 34) #[] #[])) :
    Calls Tryz.prog 76 #[.agg #[.int .i64 (x.ch),.int .i64 (x.at_),.string ⟨x.fr.toArray⟩,.int .i64 (x.pa),.int .i64 (x.lv),.int .i64 (x.st),.int .i64 (x.ti)],.agg #[.int .i64 (y.ch),.int .i64 (y.at_),.string ⟨y.fr.toArray⟩,.int .i64 (y.pa),.int .i64 (y.lv),.int .i64 (y.st),.int .i64 (y.ti)],.pointer (some ⟨B,0,none⟩)] w fun e w' => e = .returned (.int .i64 (cpP x.ky y.ky)) ∧ BelD w w':=by
  have HBL:=Lib.hid hB;have HCC:=Lib.hid hc;clear hB hc
  have hal:=((Below.refl w.heap.size w).alloc (Nat.le_refl _) (.cells #[.int .i64 (x.ch),.int .i64 (x.at_),.string ⟨x.fr.toArray⟩,.int .i64 (x.pa),.int .i64 (x.lv),.int .i64 (x.st),.int .i64 (x.ti)] 77)).alloc (by simp) (.cells #[.int .i64 (y.ch),.int .i64 (y.at_),.string ⟨y.fr.toArray⟩,.int .i64 (y.pa),.int .i64 (y.lv),.int .i64 (y.st),.int .i64 (y.ti)] 77)
  have HB:=Lib.hid hal;clear hal
  have HX:=Lib.hid ((Blk.new w 77 #[.int .i64 (x.ch),.int .i64 (x.at_),.string ⟨x.fr.toArray⟩,.int .i64 (x.pa),.int .i64 (x.lv),.int .i64 (x.st),.int .i64 (x.ti)]).alloc (.cells #[.int .i64 (y.ch),.int .i64 (y.at_),.string ⟨y.fr.toArray⟩,.int .i64 (y.pa),.int .i64 (y.lv),.int .i64 (y.st),.int .i64 (y.ti)] 77))
  have hA:=Blk.new (w.alloc (.cells #[.int .i64 (x.ch),.int .i64 (x.at_),.string ⟨x.fr.toArray⟩,.int .i64 (x.pa),.int .i64 (x.lv),.int .i64 (x.st),.int .i64 (x.ti)] 77)) 77 #[.int .i64 (y.ch),.int .i64 (y.at_),.string ⟨y.fr.toArray⟩,.int .i64 (y.pa),.int .i64 (y.lv),.int .i64 (y.st),.int .i64 (y.ti)]
  rw [World.size_alloc] at hA
  have HZ:=Lib.hid hA;clear hA
  go_enter Tryz.func76,Tryz.ntmps76
  go_upto_region 1 with fail
  obtain ⟨W2,hW2⟩:∃ X,X = (w.alloc (.cells #[.int .i64 (x.ch),.int .i64 (x.at_),.string ⟨x.fr.toArray⟩,.int .i64 (x.pa),.int .i64 (x.lv),.int .i64 (x.st),.int .i64 (x.ti)] 77)).alloc (.cells #[.int .i64 (y.ch),.int .i64 (y.at_),.string ⟨y.fr.toArray⟩,.int .i64 (y.pa),.int .i64 (y.lv),.int .i64 (y.st),.int .i64 (y.ti)] 77):=⟨_,rfl⟩
  have HDR:Hid (w.drawn ≤ W2.drawn):=Lib.hid (by rw [hW2];exact Nat.le_refl _)
  rw [← hW2] at HB HX HZ ⊢
  clear hW2
  obtain ⟨SS,hSS⟩:∃ SS:World → Prop,∀ W',SS W' ↔ BelD W2 W':=⟨fun W' => BelD W2 W',fun _ => Iff.rfl⟩
  have HBO:Hid (∀ W',SS W' → (W'.cell? ⟨w.heap.size,0,none⟩ = some (.int .i64 (x.ch)) ∧ W'.cell? ⟨w.heap.size,1,none⟩ = some (.int .i64 (x.at_)) ∧ W'.cell? ⟨w.heap.size,2,none⟩ = some (.string ⟨x.fr.toArray⟩) ∧ W'.cell? ⟨w.heap.size,3,none⟩ = some (.int .i64 (x.pa)) ∧ W'.cell? ⟨w.heap.size,4,none⟩ = some (.int .i64 (x.lv)) ∧ W'.cell? ⟨w.heap.size,5,none⟩ = some (.int .i64 (x.st)) ∧ W'.cell? ⟨w.heap.size,6,none⟩ = some (.int .i64 (x.ti)) ∧ W'.cell? ⟨w.heap.size + 1,0,none⟩ = some (.int .i64 (y.ch)) ∧ W'.cell? ⟨w.heap.size + 1,1,none⟩ = some (.int .i64 (y.at_)) ∧ W'.cell? ⟨w.heap.size + 1,2,none⟩ = some (.string ⟨y.fr.toArray⟩) ∧ W'.cell? ⟨w.heap.size + 1,3,none⟩ = some (.int .i64 (y.pa)) ∧ W'.cell? ⟨w.heap.size + 1,4,none⟩ = some (.int .i64 (y.lv)) ∧ W'.cell? ⟨w.heap.size + 1,5,none⟩ = some (.int .i64 (y.st)) ∧ W'.cell? ⟨w.heap.size + 1,6,none⟩ = some (.int .i64 (y.ti)) ∧ W'.cell? ⟨B,0,none⟩ = some (.func (.func 34) #[] #[]) ∧ SS W')):=Lib.hid fun W' hs => by have h1:=((hSS W').1 hs).1;exact ⟨(HX.out.keep h1).c7.1,(HX.out.keep h1).c7.2.1,(HX.out.keep h1).c7.2.2.1,(HX.out.keep h1).c7.2.2.2.1,(HX.out.keep h1).c7.2.2.2.2.1,(HX.out.keep h1).c7.2.2.2.2.2.1,(HX.out.keep h1).c7.2.2.2.2.2.2.1,(HZ.out.keep h1).c7.1,(HZ.out.keep h1).c7.2.1,(HZ.out.keep h1).c7.2.2.1,(HZ.out.keep h1).c7.2.2.2.1,(HZ.out.keep h1).c7.2.2.2.2.1,(HZ.out.keep h1).c7.2.2.2.2.2.1,(HZ.out.keep h1).c7.2.2.2.2.2.2.1,((bch' HB.out h1).cell (p:=⟨B,0,none⟩) HBL.out).trans HCC.out,hs⟩
  have HS1:Hid (SS W2):=Lib.hid ((hSS _).2 ⟨Below.refl _ _,Nat.le_refl _⟩)
  have HKA:Hid (∀ A c,SS A → SS (A.alloc c)):=Lib.hid fun A c hs => (hSS _).2 ⟨bch' ((hSS A).1 hs).1 ((Below.refl _ _).alloc (Nat.le_refl _) _),((hSS A).1 hs).2⟩
  have HKD:Hid (∀ A,SS A → SS A.drew):=Lib.hid fun A hs => (hSS _).2 ⟨((hSS A).1 hs).1.drew,Nat.le_succ_of_le ((hSS A).1 hs).2⟩
  have HKX:Hid (∀ A B,SS A → BelD A B → SS B):=Lib.hid fun A B hs hb => (hSS _).2 ⟨bch' ((hSS A).1 hs).1 hb.1,Nat.le_trans ((hSS A).1 hs).2 hb.2⟩
  have HFI:Hid (∀ A,SS A → BelD w A):=Lib.hid fun A hs => ⟨bch' HB.out ((hSS A).1 hs).1,Nat.le_trans HDR.out ((hSS A).1 hs).2⟩
  have ho1:=fun W => own_pownD x.ch x.at_ x.fr x.pa x.lv x.st x.ti W
  have ho2:=fun W => own_pownD y.ch y.at_ y.fr y.pa y.lv y.st y.ti W
  have hcp:=fun W => own_pcompareD x.ch x.at_ y.ch y.at_ W
  have HE:Hid (cpP x.ky y.ky = cpP (x.ch,x.at_) (y.ch,y.at_)):=Lib.hid rfl
  generalize cpP (x.ch,x.at_) (y.ch,y.at_) = r at *
  have HO1:=Lib.hid ho1;clear ho1
  have HO2:=Lib.hid ho2;clear ho2
  have HCP:=Lib.hid hcp;clear hcp
  clear hSS HX HZ HB HDR HBL HCC
  go_region_held3 (fun W' => W'.cell? ⟨w.heap.size,0,none⟩ = some (.int .i64 (x.ch)) ∧ W'.cell? ⟨w.heap.size,1,none⟩ = some (.int .i64 (x.at_)) ∧ W'.cell? ⟨w.heap.size,2,none⟩ = some (.string ⟨x.fr.toArray⟩) ∧ W'.cell? ⟨w.heap.size,3,none⟩ = some (.int .i64 (x.pa)) ∧ W'.cell? ⟨w.heap.size,4,none⟩ = some (.int .i64 (x.lv)) ∧ W'.cell? ⟨w.heap.size,5,none⟩ = some (.int .i64 (x.st)) ∧ W'.cell? ⟨w.heap.size,6,none⟩ = some (.int .i64 (x.ti)) ∧ W'.cell? ⟨w.heap.size + 1,0,none⟩ = some (.int .i64 (y.ch)) ∧ W'.cell? ⟨w.heap.size + 1,1,none⟩ = some (.int .i64 (y.at_)) ∧ W'.cell? ⟨w.heap.size + 1,2,none⟩ = some (.string ⟨y.fr.toArray⟩) ∧ W'.cell? ⟨w.heap.size + 1,3,none⟩ = some (.int .i64 (y.pa)) ∧ W'.cell? ⟨w.heap.size + 1,4,none⟩ = some (.int .i64 (y.lv)) ∧ W'.cell? ⟨w.heap.size + 1,5,none⟩ = some (.int .i64 (y.st)) ∧ W'.cell? ⟨w.heap.size + 1,6,none⟩ = some (.int .i64 (y.ti)) ∧ W'.cell? ⟨B,0,none⟩ = some (.func (.func 34) #[] #[]) ∧ SS W') (with_reducible refine HBO.out _ ?_;((repeat (first | with_reducible refine HKA.out _ _ ?_ | with_reducible refine HKD.out _ ?_ | with_reducible refine HKX.out _ _ ?_ (by assumption)));with_reducible exact HS1.out)) (first | (go_at_call 34;first | (with_reducible refine (HO1.out _).mono ?_;rintro e w9 ⟨rfl,hb9⟩) | (with_reducible refine (HO2.out _).mono ?_;rintro e w9 ⟨rfl,hb9⟩)) | (go_at_call 52;with_reducible refine (HCP.out _).mono ?_;rintro e w9 ⟨rfl,hb9⟩))
  all_goals (go_wp2_with fail;go_ret)
  all_goals exact ⟨by first | (rw [HE.out];done) | (rw [HE.out];rfl),HFI.out _ (by ((repeat (first | with_reducible refine HKA.out _ _ ?_ | with_reducible refine HKD.out _ ?_ | with_reducible refine HKX.out _ _ ?_ (by assumption)));with_reducible exact HS1.out))⟩
theorem own_hsort (l : List Hnd) (w : World) (p : Option Addr) (c base B : Nat) (hO : OwnR encHd 7 base 77 w p c l) (hn : l.length ≤ 1000000) (hbase : base ≤ w.heap.size) (hB : B < base) (hc : w.cell? ⟨B, 0, none⟩ = some (.func (.func 34) #[] #[])) :
    Calls Tryz.prog 75 #[.slice p l.length c,.func (.func 76) #[] #[.pointer (some ⟨B,0,none⟩)]] w fun e w' => e = .returned (.tuple #[]) ∧ ∃ s,List.Perm s l ∧ (∀ i j (hj:j < s.length) (h:i < j),ltP (s[j]'hj).ky (s[i]'(by omega)).ky = false) ∧ OwnR encHd 7 base 77 w' p c s ∧ Below base w w' :=
  sort_gen Tryz.sortHd encHd_len encHd_one (by decide) Tryz.isAgg77 Tryz.sizeOf77 Hnd.ky (fun x y => cpP x.ky y.ky) (fun x y => cpP_lt) 76 #[.pointer (some ⟨B, 0, none⟩)] l w p c base 77 (enters_of Tryz.func76 (by kernel_rfl) rfl)
    (fun W hW x y => cmp_hd x y B W (Nat.lt_of_lt_of_le hB (Nat.le_trans hbase hW.size)) ((hW.cell (p:=⟨B,0,none⟩) hB).trans hc)) hO hn hbase
theorem eqPm:EqlAt Tryz.prog 34 (fun x => .agg (encPm x).toArray) (fun x y:Int × Int => decide (x = y)):=by
  refine ⟨fun x y w => ?_,GuardAt.agg _ (by kernel_rfl)⟩
  obtain ⟨a,b⟩:=x;obtain ⟨c,d⟩:=y
  have h:=eq_par w a b c d
  have e:((a == c) && (b == d)) = decide ((a,b) = (c,d)):=by
    by_cases h1:a = c <;> by_cases h2:b = d <;> simp [h1,h2]
  rw [e] at h
  exact h
theorem encPm_len:∀ x,(encPm x).length = 2:=fun _ => rfl
theorem pm_contains (l : List (Int × Int)) (v : Value) (x y : Int) (w : World) (hv : PmsAt w v l) (hn : l.length ≤ 1000000) :
    Calls Tryz.prog 10 #[v,.agg #[.int .i64 x,.int .i64 y]] w fun e w' => e = .returned (.bool (decide ((x,y) ∈ l))) ∧ Below w.heap.size w w':=by
  obtain ⟨p,c,rfl,hv2⟩:=hv
  by_cases h0:l = []
  · subst h0
    clear hv2 hn
    have hix:∀ W,Calls Tryz.prog 26 #[.slice p 0 c,.agg #[.int .i64 x,.int .i64 y]] W fun e w' => e = .returned (.int .i64 (-1)) ∧ Below W.heap.size W w':=by
      intro W
      have HB:=Lib.hid ((Below.refl W.heap.size W).alloc (Nat.le_refl _) (.cells #[.int .i64 x,.int .i64 y] 34))
      go_enter Tryz.func26,Tryz.ntmps26
      go_wp2
      refine wp_loop_rounds 1 ?_
      rw [rounds_succ]
      go_wp2
      go_ret
      exact ⟨rfl,HB.out⟩
    have HIX:=Lib.hid hix;clear hix
    rw [show decide ((x,y) ∈ ([]:List (Int × Int))) = false from by simp]
    dsimp only [List.length_nil]
    have HB:=Lib.hid ((Below.refl w.heap.size w).alloc (Nat.le_refl _) (.cells #[.int .i64 x,.int .i64 y] 34))
    have HK:=Lib.hid (Blk.new w 34 #[.int .i64 x,.int .i64 y])
    obtain ⟨k0,k1,kf0,kf1⟩:=HK.out.c2
    go_enter Tryz.func10,Tryz.ntmps10
    go_wp2_with (first | (with_reducible refine ((HIX.out _).mono ?_);rintro e w' ⟨rfl,hb⟩;replace HB:=Lib.hid (bch' HB.out hb);clear hb))
    go_ret
    exact ⟨rfl,HB.out⟩
  · obtain ⟨b,o,rfl,hb,k⟩:=hv2 h0
    refine (AnyQ.slices_Contains Tryz.containsPa 2 Tryz.isAgg34 Tryz.sizeOf34 encPm encPm_len _ eqPm b o l.length c l (x,y) w (Nat.le_refl _) (by omega) (elemsX k)).mono fun e w' ⟨he,hb⟩ => ⟨?_,hb⟩
    rw [he,List.take_length]
    congr 2
    rw [Bool.eq_iff_iff,List.any_eq_true,decide_eq_true_iff]
    constructor
    · rintro ⟨q,hq,h⟩
      have h:=of_decide_eq_true h
      subst h
      exact hq
    · intro h
      exact ⟨_,h,decide_eq_true rfl⟩
end Go.Proofs.YtmjkenlifgmeeaaGreatDoor
