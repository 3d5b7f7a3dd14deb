/- A part of the proof of EffectAdds: contracts of functions, and plain facts. -/
import Derived.Test.YtbeojahilbglcaaGreatDoorQdZq
import Derived.Test.YtbeojahilbglcaaGreatDoorQdYf
import Derived.Test.YtbeojahilbglcaaGreatDoorQdLr
import Derived.RangeFuncLeaves
import Derived.Sort.CutIn
set_option maxRecDepth 100000
set_option maxHeartbeats 8000000
set_option linter.unusedVariables false
set_option linter.unusedSimpArgs false
namespace Lum
open Go Go.RowKit Go.Shelf
open Go.Lib (decDigits itoa)
def Marks (Ds:List Nat):List Deferred:=Ds.map fun D => { target:=.collected D,args:=#[] }
def shutAll : List Nat → World → World
  | [],w => w
  | D :: r,w => shutAll r (w.putObj D (.deferred none))
def MarksAt (W:World) (Ds:List Nat):Prop:=∀ D ∈ Ds,W.heap[D]? = some (.deferred (some []))
theorem MarksAt.lt {W:World} {Ds:List Nat} (h:MarksAt W Ds):∀ D ∈ Ds,D < W.heap.size:=fun D hD => (Array.getElem?_eq_some_iff.1 (h D hD)).1
theorem MarksAt.kept {W W':World} {Ds:List Nat} (h:MarksAt W Ds) (hb:Below W.heap.size W W'):MarksAt W' Ds:=fun D hD => (hb.block D (h.lt D hD)).trans (h D hD)
theorem MarksAt.others {W W':World} {Ds:List Nat} (h:MarksAt W Ds) (hk:KeepsOthers W W'):MarksAt W' Ds:=fun D hD => hk.same D _ (h D hD) rfl
theorem shutAll_other {k:Nat}:∀ (Ds:List Nat) (W:World),k ∉ Ds → (shutAll Ds W).heap[k]? = W.heap[k]?:=by
  intro Ds
  induction Ds with
  | nil => intro W _;rfl
  | cons D r ih =>
    intro W h
    rw [List.mem_cons,not_or] at h
    rw [shutAll,ih _ h.2]
    exact World.putObj_heap_other (fun e => h.1 e)
theorem shutAll_below {w0:World}:∀ (Ds:List Nat) (W:World),Ds.Nodup → (∀ D ∈ Ds,w0.heap.size ≤ D) → MarksAt W Ds → Below w0.heap.size W (shutAll Ds W):=by
  intro Ds
  induction Ds with
  | nil => intro W _ _ _;exact Below.refl _ _
  | cons D r ih =>
    intro W hn hb hm
    obtain ⟨h1,h2⟩:=List.nodup_cons.1 hn
    rw [shutAll]
    refine (belowK_b (w:=w0) (Nat.le_refl _) W D _ _ (hb D List.mem_cons_self) (hm D List.mem_cons_self) rfl rfl).trans (ih _ h2 (fun E hE => hb E (List.mem_cons_of_mem _ hE)) fun E hE => ?_)
    rw [World.putObj_heap_other (fun e => h1 (by rw [← e];exact hE))]
    exact hm E (List.mem_cons_of_mem _ hE)
theorem leaves_marks {F:Fence} {n:Nat} {P:Program} {fn:Func} {tmps:Array Value} {R:Ending → World → Prop}:∀ (Ds:List Nat) (W:World),Ds.Nodup → MarksAt W Ds → (∃ v,(results fn tmps).run P (shutAll Ds W) = .ok v (shutAll Ds W) ∧ R (.returned v) (shutAll Ds W)) → LeavesInM F n P fn tmps R (Marks Ds) .returning W:=by
  intro Ds
  induction Ds with
  | nil => intro W _ _ h;exact h
  | cons D r ih =>
    intro W hn hm h
    obtain ⟨h1,h2⟩:=List.nodup_cons.1 hn
    refine ⟨by simp,.inl ⟨D,_,rfl,run_takeDeferred (hm D List.mem_cons_self),ih _ h2 (fun E hE => ?_) h⟩⟩
    rw [World.putObj_heap_other (fun e => h1 (by rw [← e];exact hE))]
    exact hm E (List.mem_cons_of_mem _ hE)
theorem OwnR.turned {β:Type} {enc:β → List Value} {k base:Nat} {e:TypeId} {W W':World} {p:Option Addr} {c:Nat} {l:List β} (h:OwnR enc k base e W p c l) (hs:∀ g cur,p = some ⟨g,0,none⟩ → W.heap[g]? = some (.cells cur e (0,0)) → W'.heap[g]? = W.heap[g]?):OwnR enc k base e W' p c l:=by
  refine ⟨h.1,h.2.imp id fun ⟨g,cap,cur,h1,h2,h3,h4⟩ => ⟨g,cap,cur,h1,h2,?_,h4⟩⟩
  injection h1 with h1
  rw [hs g cur h1 h3];exact h3
theorem ownR_ne {β:Type} {enc:β → List Value} {k base:Nat} {e T:TypeId} {W:World} {p:Option Addr} {c b:Nat} {cs:Array Value} {l:List β} (h:OwnR enc k base e W p c l) (hb:Blk W b T cs) (hT:T ≠ e):∀ a,p = some a → a.block ≠ b:=by
  intro a ha
  rcases h.2 with ⟨h1,-⟩ | ⟨g,cap,cur,h1,-,h3,-⟩
  · injection h1 with h1;rw [h1] at ha;cases ha
  · injection h1 with h1
    rw [h1] at ha
    injection ha with ha
    subst ha
    intro e2
    have e3:g = b:=e2
    subst e3
    have:=h3.symm.trans hb
    injection this with this
    injection this with h5 h6 h7
    exact hT h6.symm
theorem OwnR.shut {β:Type} {enc:β → List Value} {k base:Nat} {e:TypeId} {W:World} {p:Option Addr} {c:Nat} {l:List β} {Ds:List Nat} (h:OwnR enc k base e W p c l) (hm:MarksAt W Ds):OwnR enc k base e (shutAll Ds W) p c l :=
  h.turned fun g cur _ hg => shutAll_other Ds W fun hD => by have:=hm g hD;rw [hg] at this;cases this
theorem ownR_own {α β:Type} (enc:β → List Value) (k base:Nat) (e:TypeId) (p:α → Option Addr) (c:α → Nat) (l:α → List β):Own (fun (s:α) W => OwnR enc k base e W (p s) (c s) (l s)):=by
  intro s X Y row h hg hrow
  refine h.turned fun g cur _ hgb => hg.block g (Array.getElem?_eq_some_iff.1 hgb).1 (fun e' => ?_)
  obtain ⟨o,ho,hc⟩:=hrow g e'.symm
  rw [hgb] at ho;cases ho;cases hc
theorem keepsOthers_grown {W W':World} {row:Option Nat} (hg:W.grownBy W' row) (hrow:∀ r,row = some r → ∃ o:Obj,W.heap[r]? = some o ∧ o.isCells = true):KeepsOthers W W' :=
  ⟨hg.size,fun k o hk ho => (hg.block k (Array.getElem?_eq_some_iff.1 hk).1 (fun e => by obtain ⟨o',h1,h2⟩:=hrow k e.symm;rw [hk] at h1;cases h1;rw [ho] at h2;cases h2)).trans hk⟩
theorem append_one {P : Program} (t ty e : TypeId) (i : TypeInfo) (z : Value) (ht : P.underlying t = some (.slice e)) (hi : P.info? e = some i) (hz : i.zero = some z) (hsize : i.size = 2) (hby : i.bytes = 16) (hzs : z.cells.size = 2)
    {base:Nat} {W:World} {p:Option Addr} {c b:Nat} {l:List (Int × Int)} (h:OwnR encQ 2 base e W p c l) (q:Int × Int) (hq:∀ j u,(encQ q)[j]? = some u → W.cell? ⟨b,j,none⟩ = some u) (hn:l.length ≤ 1000000) (hbase:base ≤ W.heap.size) :
    ∃ p' c' W',(Builtin.append_ #[t,t] ty #[.slice p l.length c,.slice (some ⟨b,0,none⟩) 1 1]).run P W = .ok (.slice p' (l.length + 1) c') W' ∧ OwnR encQ 2 base e W' p' c' (l ++ [q]) ∧ Below base W W' ∧ KeepsOthers W W' ∧ SameB p W W':=by
  obtain ⟨v',W',hr,ho,hg,-,-⟩:=run_append_own_at (P:=P) W base t ty e i z 2 16 ht hi hz hsize hby hzs (by omega) _ _ _ h ⟨b,0,none⟩ 1 1 (encQ q) (by rw [encQ_len]) (fun j u hu => by rw [addr_add,Nat.zero_add];exact hq j u hu) (encQ_one q) (by unfold maxLen;omega) (by omega) hbase
  obtain ⟨p',c',rfl⟩:∃ p' c',v' = .slice p' (l.length + 1) c':=by
    rcases ho.2 with ⟨rfl,h2⟩ | ⟨g,cap,cur,rfl,_⟩
    · simp at h2
    · exact ⟨_,_,rfl⟩
  have hrow:∀ r,(Value.slice p l.length c).ownBlock = some r → base ≤ r ∧ ∃ o:Obj,W.heap[r]? = some o ∧ o.isCells = true:=by
    intro r hr
    rcases h.2 with ⟨h1,-⟩ | ⟨g,cap,cur,h1,h2,h3,-⟩
    · rw [h1] at hr;simp [Value.ownBlock] at hr
    · rw [h1] at hr
      simp [Value.ownBlock] at hr
      subst hr
      exact ⟨h2,_,h3,rfl⟩
  refine ⟨p',c',W',hr,?_,(Below.refl base W).grown hg hbase (fun k hk => (hrow k hk).1),keepsOthers_grown hg (fun r hr => (hrow r hr).2),fun k hk hp => hg.block k hk (fun e2 => ?_)⟩
  · unfold OwnR
    rw [List.length_append,List.flatMap_append,List.flatMap_cons,List.flatMap_nil,List.append_nil];exact ho
  · cases p with
    | none => simp [Value.ownBlock] at e2
    | some ad => simp [Value.ownBlock] at e2;exact hp ad rfl e2.symm
theorem MarksAt.same {β:Type} {enc:β → List Value} {k base:Nat} {e:TypeId} {W W':World} {p:Option Addr} {c:Nat} {l:List β} {Ds:List Nat} (h:MarksAt W Ds) (hO:OwnR enc k base e W p c l) (hs:SameB p W W'):MarksAt W' Ds:=fun D hD => by
  refine (hs D (h.lt D hD) fun a ha e2 => ?_).trans (h D hD)
  rcases hO.2 with ⟨h1,-⟩ | ⟨g,cap,cur,h1,-,h3,-⟩
  · injection h1 with h1;rw [h1] at ha;cases ha
  · injection h1 with h1
    rw [h1] at ha
    injection ha with ha
    subst ha
    have h9:=h D hD
    have e3:g = D:=e2
    rw [← e3,h3] at h9;cases h9
theorem Blk.same {β:Type} {enc:β → List Value} {k base:Nat} {e T:TypeId} {W W':World} {p:Option Addr} {c b:Nat} {l:List β} {cs:Array Value} (h:Blk W b T cs) (hO:OwnR enc k base e W p c l) (hT:T ≠ e) (hs:SameB p W W'):Blk W' b T cs:=(hs b h.lt (ownR_ne hO h hT)).trans h
def tkP (cs:List Int) (a:Int) (pre:List (Fin cs.length)):List (Int × Int):=pre.map fun i => (inI cs i.1,a)
theorem tkP_snoc (cs:List Int) (a:Int) (pre:List (Fin cs.length)) (x:Fin cs.length):tkP cs a (pre ++ [x]) = tkP cs a pre ++ [(inI cs x.1,a)]:=by unfold tkP;rw [List.map_append];rfl
theorem tkP_all (cs:List Int) (a:Int):tkP cs a (upF cs.length cs.length) = cs.map fun c => (c,a):=by
  unfold tkP upF
  rw [List.take_of_length_le (by simp)]
  apply List.ext_getElem (by simp)
  intro j h1 h2
  simp [inI]
theorem tkP_len (cs:List Int) (a:Int) (pre:List (Fin cs.length)):(tkP cs a pre).length = pre.length:=List.length_map _
theorem movedL_bnd {L:List Efx} {R:List Rnx} (hL:OrdOk efE (·.nu) L) (hR:OrdOk rnE (·.ef) R):BndP (movedL L R):=by
  intro q hq
  unfold movedL at hq
  obtain ⟨x,hx,hq⟩:=List.mem_flatMap.1 hq
  obtain ⟨i,hi,rfl⟩:=List.getElem_of_mem hx
  have hxo:=rnOk (hR.ok i hi)
  cases hf:L.find? (fun y => y.nu == (R[i]'hi).ef) with
  | none => rw [movedE_none hf] at hq;cases hq
  | some y =>
    rw [movedE_some hf] at hq
    obtain ⟨c,hc,rfl⟩:=List.mem_map.1 hq
    have hy:=List.mem_of_find?_eq_some hf
    obtain ⟨k,hk,rfl⟩:=List.getElem_of_mem hy
    have hyo:=efOk (hL.ok k hk)
    obtain ⟨j,hj,rfl⟩:=List.getElem_of_mem hc
    have:=hxo.ch.rng j hj
    unfold inI at this
    rw [List.getElem?_eq_getElem hj] at this
    exact ⟨this,hyo.at_⟩
theorem movedE_len {L:List Efx} {x:Rnx}:(movedE L x).length ≤ x.cs.length:=by
  unfold movedE
  split
  · rw [List.length_map];exact Nat.le_refl _
  · simp
theorem movedL_len {L:List Efx}:∀ {R:List Rnx},(∀ x ∈ R,x.cs.length ≤ 256) → (movedL L R).length ≤ R.length * 256:=by
  intro R
  induction R with
  | nil => intro _;simp [movedL]
  | cons x r ih =>
    intro h
    have h1:=ih fun y hy => h y (List.mem_cons_of_mem _ hy)
    have h2:=h x List.mem_cons_self
    have h3:=movedE_len (L:=L) (x:=x)
    unfold movedL at h1 ⊢
    rw [List.flatMap_cons,List.length_append,List.length_cons,Nat.add_mul]
    omega
theorem movedL_few {L:List Efx} {R:List Rnx} (hR:OrdOk rnE (·.ef) R) (k:Nat):(movedL L (R.take k)).length ≤ 4096:=by
  have h1:=movedL_len (L:=L) (R:=R.take k) fun x hx => by
    obtain ⟨i,hi,rfl⟩:=List.getElem_of_mem (List.mem_of_mem_take hx)
    exact (rnOk (hR.ok i hi)).ch.few
  have h2:(R.take k).length ≤ 16:=by rw [List.length_take];have:=hR.few;omega
  have h3:(R.take k).length * 256 ≤ 16 * 256:=Nat.mul_le_mul_right _ h2
  omega
end Lum
namespace Go.Proofs.YtbeojahilbglcaaGreatDoor
open Go.RowKit Go.Shelf Lum
open Go.Lib (decDigits itoa)
attribute [local go_sem] Oper.semAt_some bs_get bs_extract_end bs_extract_from bs_extract bs_append
theorem step_append_run2 {P : Program} {c : Prop} [Decidable c] {o : Oper} {a : Act} {w : World} {K : Act → World → Prop} {Q : Exit → Act → World → Prop} {E : Prop}
    (hg:o.guard = none) (hc:c) (s x:Operand) (t:TypeId) (hop:o.op = Op.call { callee:=Callee.builtin Builtin.append,args:=#[s,x],argTypes:=#[t,t] })
    (v u:Value) (hs:a.eval s = v) (hx:a.eval x = u) {v':Value} {w':World} (hr:(Builtin.append_ #[t,t] o.type #[v,u]).run P w = .ok v' w') (hK:K (a.put o.dst v') w') :
    if c then Oper.wp P o a w K Q else E:=by
  rw [if_pos hc]
  have h:=step_append_run (P:=P) (ops:=#[]) (o:=o) (a:=a) (w:=w) (K:=K) (Q:=Q) (E:=E) hg s x t hop v u hs hx hr hK
  rwa [if_pos (by simp [Region.wanted,hg])] at h
theorem own_psortM (l : List (Int × Int)) (W : World) (p : Option Addr) (c base n7 : Nat) (Ds : List Nat) (cs : Array Value) (hO : OwnR encQ 2 base 45 W p c l) (hb : BndP l) (hn : l.length ≤ 1000000) (hbase : base ≤ W.heap.size) (hM : MarksAt W Ds) (h7 : Blk W n7 55 cs) :
    Calls Tryz.prog 58 #[.slice p l.length c,.func (.func 59) #[] #[]] W fun e w' => e = .returned (.tuple #[]) ∧ ∃ s,List.Perm s l ∧ (∀ i j (hj:j < s.length) (h:i < j),ltP (s[j]'hj) (s[i]'(by omega)) = false) ∧ OwnR encQ 2 base 45 w' p c s ∧ Below base W w' ∧ MarksAt w' Ds ∧ Blk w' n7 55 cs :=
  (own_psort l W p c base hO hb hn hbase).mono fun e w' ⟨he,s,h1,h2,h3,h4,h5⟩ => ⟨he,s,h1,h2,h3,h4,hM.same hO h5,h7.same hO (by decide) h5⟩
theorem own_pcompactM (l : List (Int × Int)) (W : World) (p : Option Addr) (c base : Nat) (Ds : List Nat) (hO : OwnR encQ 2 base 45 W p c l) (hn : l.length ≤ 1000000) (hbase : base ≤ W.heap.size) (hM : MarksAt W Ds) :
    Calls Tryz.prog 60 #[.slice p l.length c] W fun e w' => ∃ p' c',e = .returned (.slice p' (ddK l l.length).length c') ∧ OwnR encQ 2 base 45 w' p' c' (ddK l l.length) ∧ Below base W w' ∧ MarksAt w' Ds :=
  (own_pcompact l W p c base hO hn hbase).mono fun e w' ⟨p',c',h1,h2,h3,h4⟩ => ⟨p',c',h1,h2,h3,hM.same hO h4⟩
theorem own_eparams0 (M : List (Efx × Sl3)) (N : List (Rnx × Sl3)) (pp pr : Option Addr) (cc cr : Nat) (w : World) (hR : RowX encE 6 w pp M) (hHW : HasW w M) (hN : RowX encN 6 w pr N) (hC : HasC w N) (hoL : OrdOk efE (·.nu) (M.map (·.1))) (hoR : OrdOk rnE (·.ef) (N.map (·.1))) :
    Calls Tryz.prog 21 #[.slice pp M.length cc,.slice pr N.length cr] w fun e w' => ∃ v',e = .returned (.tuple #[v',.int .i64 0]) ∧ ParsAt w' v' (parL (M.map (·.1)) (N.map (·.1))) ∧ Below w.heap.size w w':=by
  have HOL:=Lib.hid hoL;have HOR:=Lib.hid hoR;have HRX0:=Lib.hid hR;have HN0:=Lib.hid hN;have HC0:=Lib.hid hC
  have hEf:EfsAt w (.slice pp M.length cc) (M.map (·.1)):=⟨M,pp,cc,rfl,rfl,hR,hHW⟩
  have hRu:RunsAt w (.slice pr N.length cr) (N.map (·.1)):=⟨N,pr,cr,rfl,rfl,hN,hC⟩
  have hbo:=fun W (h1:EfsAt W (.slice pp M.length cc) (M.map (·.1))) (h2:RunsAt W (.slice pr N.length cr) (N.map (·.1))) => own_eboth (M.map (·.1)) (N.map (·.1)) (.slice pp M.length cc) (.slice pr N.length cr) W h1 h2
  have hal:=(Below.refl w.heap.size w).alloc (Nat.le_refl _) (.cells #[.slice pp M.length cc] 43)
  have HE:=Lib.hid (EfsAt.kept hEf hal);have HN:=Lib.hid (RunsAt.kept hRu hal);have HB:=Lib.hid hal;clear hal hEf hRu
  have HL:=Lib.hid (Blk.new w 43 #[.slice pp M.length cc])
  obtain ⟨a0,af0⟩:=HL.out.c1
  have HRX:Hid (∀ W,Below w.heap.size w W → RowX encE 6 W pp M):=Lib.hid fun W h => hR.kept h
  have hbz:boE (M.map (·.1)) (N.map (·.1)) = 0:=by rw [boE_rn (show efsE (M.map (·.1)) = 0 from ordE_of hoL)];exact ordE_of hoR
  rw [hbz] at hbo
  have HF16:Hid (N.length ≤ 16):=Lib.hid (by have:=hoR.few;rwa [List.length_map] at this)
  have HM16:Hid (M.length ≤ 16):=Lib.hid (by have:=hoL.few;rwa [List.length_map] at this)
  have HFE:Hid (∀ k,(movedL (M.map (·.1)) ((N.map (·.1)).take k)).length ≤ 4096):=Lib.hid fun k => movedL_few hoR k
  have HBN:Hid (BndP (movedL (M.map (·.1)) (N.map (·.1))) ∧ (movedL (M.map (·.1)) (N.map (·.1))).length ≤ 1000000):=Lib.hid ⟨movedL_bnd hoL hoR,by have:=movedL_few (L:=(M.map (·.1))) hoR ((N.map (·.1)).length);rw [List.take_length] at this;omega⟩
  clear hbz hoL hoR hR hN hC hHW
  have HBO:=Lib.hid hbo;clear hbo
  refine (callsIn_wide (n:=5)).1 ?_
  refine callsIn_of_wp_marks Tryz.func21 rfl trivial ?_ rfl
  simp only [Tryz.ntmps21,List.size_toArray,List.length_cons,List.length_nil,Nat.reduceAdd,Nat.reduceSub,Array.replicate_succ,Array.replicate_zero,List.push_toArray,List.append_toArray,List.nil_append,List.cons_append]
  refine wpIn_wide.2 ?_
  go_upto_region 5 with (first | (with_reducible refine ((HBO.out _ HE.out HN.out).mono ?_);rintro e w1 ⟨rfl,hb⟩;replace HL:=Lib.hid (HL.out.keep hb);clear a0 af0;replace HE:=Lib.hid (EfsAt.kept HE.out hb);replace HN:=Lib.hid (RunsAt.kept HN.out hb);replace HB:=Lib.hid (bch' HB.out hb);clear hb;obtain ⟨a0,af0⟩:=HL.out.c1))
  have hb:=(Below.refl w1.heap.size w1).alloc (Nat.le_refl _) (.cells #[.slice none 0 0] 55)
  have HO7:=Lib.hid (Blk.new w1 55 #[.slice none 0 0])
  obtain ⟨n7,hn7⟩:∃ n,n = w1.heap.size:=⟨_,rfl⟩
  have HN7:Hid (w.heap.size < n7):=Lib.hid (by have:=HL.out.lt;omega)
  obtain ⟨W4,hW4⟩:∃ X,X = w1.alloc (.cells #[.slice none 0 0] 55):=⟨_,rfl⟩
  rw [← hn7] at HO7 ⊢
  rw [← hW4] at hb HO7 ⊢
  replace HL:=Lib.hid (HL.out.keep hb);clear a0 af0;replace HB:=Lib.hid (bch' HB.out hb);clear hb;obtain ⟨a0,af0⟩:=HL.out.c1
  clear hn7 hW4 HE HN
  go_wp2_with fail
  obtain ⟨INV,hINV⟩:∃ I:Act → World → Prop,∀ a W,I a W ↔ ((fun a W => ∃ (ds:List Deferred) (u9 u10 u11 u22 u23 u24 u25 u26 u27 u28 u29 u30 u31 u32 u33 u34 u35 u36 u49:Value),(∃ (k:Nat) (Ds:List Nat) (p:Option Addr) (c:Nat),ds = Marks Ds ∧ u22 = .int .i64 (k:Int) ∧ k ≤ N.length ∧ Hid (Below w.heap.size w W) ∧ Hid (Blk W w.heap.size 43 #[.slice pp M.length cc]) ∧ Hid (Blk W n7 55 #[.slice p (movedL (M.map (·.1)) ((N.map (·.1)).take k)).length c]) ∧ Hid (OwnR encQ 2 w.heap.size 45 W p c (movedL (M.map (·.1)) ((N.map (·.1)).take k))) ∧ Hid (Ds.Nodup ∧ ∀ D ∈ Ds,w.heap.size ≤ D) ∧ Hid (MarksAt W Ds)) ∧ a = { tmps:=#[.slice pp M.length cc,.slice pr N.length cr,.pointer (some ⟨w.heap.size,0,none⟩),undef,.slice none 0 0,.int .i64 0,.int .i64 0,.pointer (some ⟨n7,0,none⟩),undef,u9,u10,u11,undef,undef,.slice pp M.length cc,.slice pr N.length cr,.int .i64 0,.int .i64 0,.bool false,undef,.slice pr N.length cr,.int .i64 (N.length:Int),u22,u23,u24,u25,u26,u27,u28,u29,u30,u31,u32,u33,u34,u35,u36,undef,undef,undef,undef,undef,undef,undef,undef,undef,undef,undef,undef,u49,undef,undef,undef,undef],defers:=ds }) a W):=⟨_,fun _ _ => Iff.rfl⟩
  have HINV:=Lib.hid hINV;clear hINV
  refine wp_loop INV (fun a _ => N.length - (intOf (a.tmps.getD 22 undef)).toNat) ?_ ?_
  · exact (HINV.out _ _).2 ⟨_,_,_,_,_,_,_,_,_,_,_,_,_,_,_,_,_,_,_,_,⟨0,[],none,0,rfl,rfl,Nat.zero_le _,HB,HL,HO7,Lib.hid (OwnR.nil _ _ _),Lib.hid ⟨List.nodup_nil,fun D hD => by cases hD⟩,Lib.hid (fun D hD => by cases hD)⟩,rfl⟩
  · clear a0 af0
    clear HB HL HO7
    intro a wr hinv
    obtain ⟨ds,u9,u10,u11,u22,u23,u24,u25,u26,u27,u28,u29,u30,u31,u32,u33,u34,u35,u36,u49,hrel,rfl⟩:=(HINV.out _ _).1 hinv
    obtain ⟨k,Ds,p,c,rfl,rfl,hk9,HB,HL,HO7,HO,HNB,HM⟩:=hrel
    obtain ⟨a0,af0⟩:=HL.out.c1
    obtain ⟨o0,of0⟩:=HO7.out.c1
    by_cases hkl:k < N.length
    · have hkn:k < (N.map (·.1)).length:=by rw [List.length_map];exact hkl
      obtain ⟨bb,oo,rfl,hbb,hCC⟩:=HN0.out (fun e => by subst e;simp at hkl)
      obtain ⟨⟨x,q1,q2,q3⟩,hq⟩:∃ y,y = N[k]'hkl:=⟨_,rfl⟩
      have hcell:=hCC k hkl
      rw [← hq] at hcell
      have hxi:=(HC0.out _ (List.getElem_mem hkl)).1
      rw [← hq] at hxi
      dsimp only at hxi
      have hq2:=hxi.len
      subst hq2
      have hxr:(N.map (·.1))[k]'hkn = x:=by rw [List.getElem_map,← hq]
      have hxo:=rnOk (HOR.out.ok k hkn)
      rw [hxr] at hxo
      have HXO:=Lib.hid hxo
      have HXI:=Lib.hid hxi
      have HTK:Hid ((movedL (M.map (·.1)) ((N.map (·.1)).take (k + 1))) = (movedL (M.map (·.1)) ((N.map (·.1)).take k)) ++ movedE (M.map (·.1)) x):=Lib.hid (by rw [movedL_take hkn,hxr])
      have hlt:(k:Int) < (N.length:Int):=by omega
      have hk0:(0:Int) ≤ (k:Int):=by omega
      have hun:IntKind.i64.wrap ((k:Int) + 1) = (k:Int) + 1:=IntWalk.i64_in _ (by have:=HF16.out;omega)
      have hlo:k * 6 < 9223372036854775807:=by have:=HF16.out;omega
      obtain ⟨i,hit,hbel⟩:=belongs_key HOL.out x.ef
      have hfi:=fun W (h:RowX encE 6 W pp M) => own_find_eff_at x.ef (M.map (·.1)) M pp cc W rfl h HOL.out hxo.ef i hit hbel
      have HFI:=Lib.hid hfi
      have y0:wr.cell? ⟨bb,oo + k * 6,none⟩ = some (.int .i64 x.ef):=(HB.out.cell (p:=⟨bb,oo + k * 6 + 0,none⟩) hbb).trans (hcell 0 _ rfl)
      have y1:wr.cell? ⟨bb,oo + k * 6 + 1,none⟩ = some (.slice q1 x.cs.length q3):=(HB.out.cell (p:=⟨bb,oo + k * 6 + 1,none⟩) hbb).trans (hcell 1 _ rfl)
      have y2:wr.cell? ⟨bb,oo + k * 6 + 2,none⟩ = some (.int .i64 x.ce):=(HB.out.cell (p:=⟨bb,oo + k * 6 + 2,none⟩) hbb).trans (hcell 2 _ rfl)
      have y3:wr.cell? ⟨bb,oo + k * 6 + 3,none⟩ = some (.int .i64 x.cr):=(HB.out.cell (p:=⟨bb,oo + k * 6 + 3,none⟩) hbb).trans (hcell 3 _ rfl)
      have y4:wr.cell? ⟨bb,oo + k * 6 + 4,none⟩ = some (.int .i64 x.cd):=(HB.out.cell (p:=⟨bb,oo + k * 6 + 4,none⟩) hbb).trans (hcell 4 _ rfl)
      have y5:wr.cell? ⟨bb,oo + k * 6 + 5,none⟩ = some (.int .i64 x.cl):=(HB.out.cell (p:=⟨bb,oo + k * 6 + 5,none⟩) hbb).trans (hcell 5 _ rfl)
      have hbr:bb < wr.heap.size:=Nat.lt_of_lt_of_le hbb HB.out.size
      have HBEL:=Lib.hid hbel
      clear hcell hCC hq hxi hxr hxo hfi hbb hkn hbel
      cases hit with
      | false =>
        go_upto_region 8 with fail
        clear y0 y1 y2 y3 y4 y5 hbr
        have hb:=(Below.refl wr.heap.size wr).alloc (Nat.le_refl _) (.cells #[.int .i64 x.ef,.slice q1 x.cs.length q3,.int .i64 x.ce,.int .i64 x.cr,.int .i64 x.cd,.int .i64 x.cl] 68)
        have HX9:=Lib.hid (Blk.new wr 68 #[.int .i64 x.ef,.slice q1 x.cs.length q3,.int .i64 x.ce,.int .i64 x.cr,.int .i64 x.cd,.int .i64 x.cl])
        obtain ⟨n9,hn9⟩:∃ n,n = wr.heap.size:=⟨_,rfl⟩
        obtain ⟨Wa,hWWa⟩:∃ X,X = wr.alloc (.cells #[.int .i64 x.ef,.slice q1 x.cs.length q3,.int .i64 x.ce,.int .i64 x.cr,.int .i64 x.cd,.int .i64 x.cl] 68):=⟨_,rfl⟩
        rw [← hn9] at HX9 ⊢
        rw [← hWWa] at hb HX9 ⊢
        replace HL:=Lib.hid (HL.out.keep hb);clear a0 af0;replace HO7:=Lib.hid (HO7.out.keep hb);clear o0 of0;replace HO:=Lib.hid (OwnR.keep HO.out hb);replace HM:=Lib.hid (MarksAt.kept HM.out hb);replace HB:=Lib.hid (bch' HB.out hb);clear hb;obtain ⟨a0,af0⟩:=HL.out.c1;obtain ⟨o0,of0⟩:=HO7.out.c1
        clear hWWa hn9
        obtain ⟨x0,x1,x2,x3,x4,x5,xf0,xf1,xf2,xf3,xf4,xf5⟩:=HX9.out.c6
        go_upto_region 9 with (first | (with_reducible refine ((HFI.out _ (HRX.out _ HB.out)).mono ?_);rintro e w2 ⟨rfl,hb⟩;replace HL:=Lib.hid (HL.out.keep hb);clear a0 af0;replace HO7:=Lib.hid (HO7.out.keep hb);clear o0 of0;replace HX9:=Lib.hid (HX9.out.keep hb);clear x0 x1 x2 x3 x4 x5 xf0 xf1 xf2 xf3 xf4 xf5;replace HO:=Lib.hid (OwnR.keep HO.out hb);replace HM:=Lib.hid (MarksAt.kept HM.out hb);replace HB:=Lib.hid (bch' HB.out hb);clear hb;obtain ⟨a0,af0⟩:=HL.out.c1;obtain ⟨o0,of0⟩:=HO7.out.c1;obtain ⟨x0,x1,x2,x3,x4,x5,xf0,xf1,xf2,xf3,xf4,xf5⟩:=HX9.out.c6))
        have hb:=(Below.refl w2.heap.size w2).alloc (Nat.le_refl _) (.cells #[.int .i64 (i:Int)] 3)
        have HK:=Lib.hid (Blk.new w2 3 #[.int .i64 (i:Int)])
        obtain ⟨n10,hn10⟩:∃ n,n = w2.heap.size:=⟨_,rfl⟩
        obtain ⟨Wb,hWWb⟩:∃ X,X = w2.alloc (.cells #[.int .i64 (i:Int)] 3):=⟨_,rfl⟩
        rw [← hn10] at HK ⊢
        rw [← hWWb] at hb HK ⊢
        replace HL:=Lib.hid (HL.out.keep hb);clear a0 af0;replace HO7:=Lib.hid (HO7.out.keep hb);clear o0 of0;replace HX9:=Lib.hid (HX9.out.keep hb);clear x0 x1 x2 x3 x4 x5 xf0 xf1 xf2 xf3 xf4 xf5;replace HO:=Lib.hid (OwnR.keep HO.out hb);replace HM:=Lib.hid (MarksAt.kept HM.out hb);replace HB:=Lib.hid (bch' HB.out hb);clear hb;obtain ⟨a0,af0⟩:=HL.out.c1;obtain ⟨o0,of0⟩:=HO7.out.c1;obtain ⟨x0,x1,x2,x3,x4,x5,xf0,xf1,xf2,xf3,xf4,xf5⟩:=HX9.out.c6
        clear hWWb hn10
        obtain ⟨k0,kf0⟩:=HK.out.c1
        have HNO:Hid (movedE (M.map (·.1)) x = []):=Lib.hid (movedE_none (find_miss HBEL.out.miss))
        have HT2:Hid ((movedL (M.map (·.1)) ((N.map (·.1)).take (k + 1))) = (movedL (M.map (·.1)) ((N.map (·.1)).take k))):=Lib.hid (by rw [HTK.out,HNO.out,List.append_nil])
        go_wp2_with fail
        refine ⟨(HINV.out _ _).2 ⟨_,_,_,_,_,_,_,_,_,_,_,_,_,_,_,_,_,_,_,_,?rel,rfl⟩,?measure⟩
        case rel => exact ⟨k + 1,Ds,p,c,rfl,by first | rfl | simp,by omega,HB,HL,Lib.hid (by rw [HT2.out];exact HO7.out),Lib.hid (by rw [HT2.out];exact HO.out),HNB,HM⟩
        case measure => first | (simp [intOf];done) | (simp [intOf];omega)
      | true =>
        have hil:=(HBEL.out.yes rfl).1
        rw [List.length_map] at hil
        obtain ⟨y,hy⟩:∃ y,y = M[i]'hil:=⟨_,rfl⟩
        obtain ⟨be,oe,rfl,hbe,hCE⟩:=HRX0.out (fun e => by subst e;exact absurd hil (Nat.not_lt_zero _))
        have hcE:=hCE i hil 1
        rw [← hy] at hcE
        have HE1:=Lib.hid (hcE _ rfl)
        have HBE:Hid (be < w.heap.size):=Lib.hid hbe
        have HME:Hid (movedE (M.map (·.1)) x = x.cs.map fun c => (c,y.1.at_)):=Lib.hid (by rw [movedE_some HBEL.out.find,List.getElem_map,← hy])
        have hii:(i:Int) < (M.length:Int):=by omega
        have hi0:(0:Int) ≤ (i:Int):=by omega
        have hilo:i * 6 < 9223372036854775807:=by have:=HM16.out;omega
        have hcne:x.cs ≠ []:=fun h => by have:=HXO.out.ch.pos;rw [h] at this;exact absurd this (Nat.lt_irrefl _)
        have hcs:=HXO.out.ch.few
        clear hcE hCE hy hbe
        go_upto_region 8 with fail
        clear y0 y1 y2 y3 y4 y5 hbr
        have hb:=(Below.refl wr.heap.size wr).alloc (Nat.le_refl _) (.cells #[.int .i64 x.ef,.slice q1 x.cs.length q3,.int .i64 x.ce,.int .i64 x.cr,.int .i64 x.cd,.int .i64 x.cl] 68)
        have HX9:=Lib.hid (Blk.new wr 68 #[.int .i64 x.ef,.slice q1 x.cs.length q3,.int .i64 x.ce,.int .i64 x.cr,.int .i64 x.cd,.int .i64 x.cl])
        obtain ⟨n9,hn9⟩:∃ n,n = wr.heap.size:=⟨_,rfl⟩
        obtain ⟨Wa,hWWa⟩:∃ X,X = wr.alloc (.cells #[.int .i64 x.ef,.slice q1 x.cs.length q3,.int .i64 x.ce,.int .i64 x.cr,.int .i64 x.cd,.int .i64 x.cl] 68):=⟨_,rfl⟩
        rw [← hn9] at HX9 ⊢
        rw [← hWWa] at hb HX9 ⊢
        replace HL:=Lib.hid (HL.out.keep hb);clear a0 af0;replace HO7:=Lib.hid (HO7.out.keep hb);clear o0 of0;replace HO:=Lib.hid (OwnR.keep HO.out hb);replace HM:=Lib.hid (MarksAt.kept HM.out hb);replace HB:=Lib.hid (bch' HB.out hb);clear hb;obtain ⟨a0,af0⟩:=HL.out.c1;obtain ⟨o0,of0⟩:=HO7.out.c1
        clear hWWa hn9
        obtain ⟨x0,x1,x2,x3,x4,x5,xf0,xf1,xf2,xf3,xf4,xf5⟩:=HX9.out.c6
        go_upto_region 9 with (first | (with_reducible refine ((HFI.out _ (HRX.out _ HB.out)).mono ?_);rintro e w2 ⟨rfl,hb⟩;replace HL:=Lib.hid (HL.out.keep hb);clear a0 af0;replace HO7:=Lib.hid (HO7.out.keep hb);clear o0 of0;replace HX9:=Lib.hid (HX9.out.keep hb);clear x0 x1 x2 x3 x4 x5 xf0 xf1 xf2 xf3 xf4 xf5;replace HO:=Lib.hid (OwnR.keep HO.out hb);replace HM:=Lib.hid (MarksAt.kept HM.out hb);replace HB:=Lib.hid (bch' HB.out hb);clear hb;obtain ⟨a0,af0⟩:=HL.out.c1;obtain ⟨o0,of0⟩:=HO7.out.c1;obtain ⟨x0,x1,x2,x3,x4,x5,xf0,xf1,xf2,xf3,xf4,xf5⟩:=HX9.out.c6))
        have hb:=(Below.refl w2.heap.size w2).alloc (Nat.le_refl _) (.cells #[.int .i64 (i:Int)] 3)
        have HK:=Lib.hid (Blk.new w2 3 #[.int .i64 (i:Int)])
        obtain ⟨n10,hn10⟩:∃ n,n = w2.heap.size:=⟨_,rfl⟩
        obtain ⟨Wb,hWWb⟩:∃ X,X = w2.alloc (.cells #[.int .i64 (i:Int)] 3):=⟨_,rfl⟩
        rw [← hn10] at HK ⊢
        rw [← hWWb] at hb HK ⊢
        replace HL:=Lib.hid (HL.out.keep hb);clear a0 af0;replace HO7:=Lib.hid (HO7.out.keep hb);clear o0 of0;replace HX9:=Lib.hid (HX9.out.keep hb);clear x0 x1 x2 x3 x4 x5 xf0 xf1 xf2 xf3 xf4 xf5;replace HO:=Lib.hid (OwnR.keep HO.out hb);replace HM:=Lib.hid (MarksAt.kept HM.out hb);replace HB:=Lib.hid (bch' HB.out hb);clear hb;obtain ⟨a0,af0⟩:=HL.out.c1;obtain ⟨o0,of0⟩:=HO7.out.c1;obtain ⟨x0,x1,x2,x3,x4,x5,xf0,xf1,xf2,xf3,xf4,xf5⟩:=HX9.out.c6
        clear hWWb hn10
        obtain ⟨k0,kf0⟩:=HK.out.c1
        go_upto_region 10 with fail
        refine (wpIn_wide (n:=5)).1 ?_
        gi_wp2_with (refine ⟨trivial,?_⟩;gi_at_call 57;refine (members_in Fence.wide 4 trivial trivial rfl (by omega) _ _ _ _ _ _ _ _ _).mono ?_;rintro e w4 ⟨B,rfl,hle,hbox,hb⟩;replace HL:=Lib.hid (HL.out.keep hb);clear a0 af0;replace HO7:=Lib.hid (HO7.out.keep hb);clear o0 of0;replace HX9:=Lib.hid (HX9.out.keep hb);clear x0 x1 x2 x3 x4 x5 xf0 xf1 xf2 xf3 xf4 xf5;replace HK:=Lib.hid (HK.out.keep hb);clear k0 kf0;replace HO:=Lib.hid (OwnR.keep HO.out hb);replace HM:=Lib.hid (MarksAt.kept HM.out hb);replace HB:=Lib.hid (bch' HB.out hb);clear hb;obtain ⟨a0,af0⟩:=HL.out.c1;obtain ⟨o0,of0⟩:=HO7.out.c1;obtain ⟨x0,x1,x2,x3,x4,x5,xf0,xf1,xf2,xf3,xf4,xf5⟩:=HX9.out.c6;obtain ⟨k0,kf0⟩:=HK.out.c1)
        have hBlt:=hbox.lt
        have HN10:Hid (n7 ≠ n10 ∧ n7 ≠ B ∧ n10 ≠ n7 ∧ B ≠ n7):=Lib.hid (by have h1:=blk_ne HO7.out HK.out (by decide);have h2:n7 ≠ B:=blk_ne HO7.out (show Blk _ B 25 #[.slice q1 x.cs.length q3] from hbox) (by decide);exact ⟨h1,h2,fun e => h1 e.symm,fun e => h2 e.symm⟩)
        obtain ⟨W0,hW0⟩:∃ W0,W0 = w4:=⟨_,rfl⟩
        subst hW0
        have HW0:Hid (w.heap.size ≤ W0.heap.size):=Lib.hid HB.out.size
        have HDB:Hid (∀ D ∈ Ds,D < W0.heap.size):=Lib.hid HM.out.lt
        have HLEN:Hid ((movedL (M.map (·.1)) ((N.map (·.1)).take k)).length ≤ 4096):=Lib.hid (HFE.out k)
        have HCS:Hid (x.cs.length ≤ 256):=Lib.hid hcs
        refine (wpIn_wide (n:=5)).1 ?_
        try gi_wp2
        refine' wpIn_rangeFunc_ownG (n := 5) rfl (by omega) (Kp := KeepB w.heap.size B) (gf := 142) (lb := #[.pointer (some ⟨B, 0, none⟩)]) rfl trivial (enters_of Tryz.func142 (by kernel_rfl) rfl)
          (all_stops Fence.wide 4 trivial rfl (by omega) B w.heap.size _ x.cs (by omega) hcne _ HB.out.size hbox w HXI.out rfl HB.out) KeepB.t (KeepB.b HB.out.size hBlt) (Below.refl _ _) (fun _ => rfl)
          (fun pre W => (Blks W [(w.heap.size,43,#[.slice (some ⟨be,oe,none⟩) M.length cc]),(n10,3,#[.int .i64 (i:Int)]),(B,25,#[.slice q1 x.cs.length q3])] ∧ (∃ pc:Option Addr × Nat,Blk W n7 55 #[.slice pc.1 ((movedL (M.map (·.1)) ((N.map (·.1)).take k)) ++ tkP x.cs y.1.at_ pre).length pc.2] ∧ OwnR encQ 2 w.heap.size 45 W pc.1 pc.2 ((movedL (M.map (·.1)) ((N.map (·.1)).take k)) ++ tkP x.cs y.1.at_ pre)) ∧ MarksAt W Ds) ∧ Below w.heap.size w W ∧ W0.heap.size ≤ W.heap.size)
          (fun _ _ _ => False)
          (fun s A C row hs hg hr => ⟨⟨blks_own (α:=Unit) _ () A C row hs.1.1 hg (fun r e => (hr r e).2),(by obtain ⟨pc,h1,h2⟩:=hs.1.2.1;exact ⟨pc,blk_own n7 55 (fun _:Unit => _) () A C row h1 hg (fun r e => (hr r e).2),ownR_own (α:=Unit) encQ 2 w.heap.size 45 (fun _ => pc.1) (fun _ => pc.2) (fun _ => _) () A C row h2 hg (fun r e => (hr r e).2)⟩),fun D hD => (hg.block D (hs.1.2.2.lt D hD) (fun e => by have h1:=(hr D e.symm).1;have h2:=HDB.out D hD;omega)).trans (hs.1.2.2 D hD)⟩,OwnFrom.and (ownFrom_below (Nat.le_refl _) HW0.out) ownFrom_size s A C row hs.2 hg hr⟩)
          (fun c s A C row hs _ _ => hs)
          ⟨⟨fun b hb => by simp only [List.mem_cons,List.not_mem_nil,or_false] at hb;rcases hb with rfl | rfl | rfl;exact HL.out;exact HK.out;exact hbox,⟨(p,c),by simpa [tkP] using HO7.out,by simpa [tkP] using HO.out⟩,HM.out⟩,HB.out,Nat.le_refl _⟩ _ ?assign ?body ?done ?stop
        case assign =>
          intro l' x W K hK
          gi_wp2
          exact hK
        case body =>
          rintro l' pre z W ⟨⟨hbl,⟨⟨p1,c1⟩,bO,oO⟩,hD⟩,hBW,hsz⟩ hlt'
          dsimp only at bO oO
          obtain ⟨m,hm⟩:∃ m,m = ((movedL (M.map (·.1)) ((N.map (·.1)).take k)) ++ tkP x.cs y.1.at_ pre).length:=⟨_,rfl⟩
          rw [← hm] at bO
          have HMm:Hid (((movedL (M.map (·.1)) ((N.map (·.1)).take k)) ++ tkP x.cs y.1.at_ pre).length = m):=Lib.hid hm.symm;clear hm
          have hz2:=z.2
          clear HB HL HO7 HX9 HK HO HM a0 af0 o0 of0 x0 x1 x2 x3 x4 x5 xf0 xf1 xf2 xf3 xf4 xf5 k0 kf0
          have HHL0:Hid (Blk W w.heap.size 43 #[.slice (some ⟨be,oe,none⟩) M.length cc]):=Lib.hid (hbl (w.heap.size,43,#[.slice (some ⟨be,oe,none⟩) M.length cc]) (by simp));have HHK0:Hid (Blk W n10 3 #[.int .i64 (i:Int)]):=Lib.hid (hbl (n10,3,#[.int .i64 (i:Int)]) (by simp));have HHB0:Hid (Blk W B 25 #[.slice q1 x.cs.length q3]):=Lib.hid (hbl (B,25,#[.slice q1 x.cs.length q3]) (by simp));clear hbl
          obtain ⟨i0,hi,hz0,hz1,hz2⟩:=info_parts info_pa
          have hs0:(fun W' => Below w.heap.size w W' ∧ W'.cell? ⟨w.heap.size,0,none⟩ = some (.slice (some ⟨be,oe,none⟩) M.length cc) ∧ W'.cell? ⟨n10,0,none⟩ = some (.int .i64 (i:Int)) ∧ W'.cell? ⟨be,oe + i * 6 + 1,none⟩ = some (.int .i64 y.1.at_) ∧ be < W'.heap.size) (World.drew W):=⟨hBW.drew,HHL0.out.drew.c1.1,HHK0.out.drew.c1.1,(hBW.drew.cell (p:=⟨be,oe + i * 6 + 1,none⟩) HBE.out).trans HE1.out,Nat.lt_of_lt_of_le HBE.out hBW.size⟩
          have HS0:=Lib.hid hs0;clear hs0
          have h9o:OwnR encQ 2 w.heap.size 45 (World.drew (W.alloc (.cells #[.int .i64 (inI x.cs z.1),.int .i64 y.1.at_] 45))) p1 c1 ((movedL (M.map (·.1)) ((N.map (·.1)).take k)) ++ tkP x.cs y.1.at_ pre):=(oO.keep (((Below.refl W.heap.size W).alloc (Nat.le_refl _) _).drew))
          have h97:Blk (World.drew (W.alloc (.cells #[.int .i64 (inI x.cs z.1),.int .i64 y.1.at_] 45))) n7 55 #[.slice p1 m c1]:=(bO.alloc _).drew
          have h9l:Blk (World.drew (W.alloc (.cells #[.int .i64 (inI x.cs z.1),.int .i64 y.1.at_] 45))) w.heap.size 43 #[.slice (some ⟨be,oe,none⟩) M.length cc]:=(HHL0.out.alloc _).drew
          have h9k:Blk (World.drew (W.alloc (.cells #[.int .i64 (inI x.cs z.1),.int .i64 y.1.at_] 45))) n10 3 #[.int .i64 (i:Int)]:=(HHK0.out.alloc _).drew
          have h9b:Blk (World.drew (W.alloc (.cells #[.int .i64 (inI x.cs z.1),.int .i64 y.1.at_] 45))) B 25 #[.slice q1 x.cs.length q3]:=(HHB0.out.alloc _).drew
          have h9m:MarksAt (World.drew (W.alloc (.cells #[.int .i64 (inI x.cs z.1),.int .i64 y.1.at_] 45))) Ds:=hD.kept (((Below.refl W.heap.size W).alloc (Nat.le_refl _) _).drew)
          have h9w:Below w.heap.size w (World.drew (W.alloc (.cells #[.int .i64 (inI x.cs z.1),.int .i64 y.1.at_] 45))):=bch' hBW (((Below.refl W.heap.size W).alloc (Nat.le_refl _) _).drew)
          have h9c:∀ j u,(encQ (inI x.cs z.1,y.1.at_))[j]? = some u → (World.drew (W.alloc (.cells #[.int .i64 (inI x.cs z.1),.int .i64 y.1.at_] 45))).cell? ⟨W.heap.size,j,none⟩ = some u:=fun j u hu => cellN (cs:=encQ (inI x.cs z.1,y.1.at_)) W 45 hu
          have h9s:w.heap.size ≤ (World.drew (W.alloc (.cells #[.int .i64 (inI x.cs z.1),.int .i64 y.1.at_] 45))).heap.size:=h9w.size
          have hkf:KeepsFrom W0.heap.size W (World.drew (W.alloc (.cells #[.int .i64 (inI x.cs z.1),.int .i64 y.1.at_] 45))):=keepsFrom_below (((Below.refl W.heap.size W).alloc (Nat.le_refl _) _).drew)
          have hww:Below w.heap.size W (World.drew (W.alloc (.cells #[.int .i64 (inI x.cs z.1),.int .i64 y.1.at_] 45))):=(((Below.refl W.heap.size W).alloc (Nat.le_refl _) _).drew).mono hBW.size
          have hbb9:(World.drew (W.alloc (.cells #[.int .i64 (inI x.cs z.1),.int .i64 y.1.at_] 45))).heap[B]? = W.heap[B]?:=(((Below.refl W.heap.size W).alloc (Nat.le_refl _) _).drew).block B HHB0.out.lt
          have hz9:W.heap.size ≤ (World.drew (W.alloc (.cells #[.int .i64 (inI x.cs z.1),.int .i64 y.1.at_] 45))).heap.size:=by simp
          have H9O:=Lib.hid h9o;have H97:=Lib.hid h97;have H9L:=Lib.hid h9l;have H9K:=Lib.hid h9k;have H9B:=Lib.hid h9b;have H9M:=Lib.hid h9m;have H9W:=Lib.hid h9w;have H9C:=Lib.hid h9c;have H9S:=Lib.hid h9s;have HKF:=Lib.hid hkf;have HWW:=Lib.hid hww;have HSZ9:=Lib.hid hz9
          have HBB:Hid (W.heap[B]? = some (.cells #[.slice q1 x.cs.length q3] 25 (0,0))):=Lib.hid HHB0.out
          have hs9:(fun W' => Below w.heap.size w W' ∧ W'.cell? ⟨w.heap.size,0,none⟩ = some (.slice (some ⟨be,oe,none⟩) M.length cc) ∧ W'.cell? ⟨n10,0,none⟩ = some (.int .i64 (i:Int)) ∧ W'.cell? ⟨be,oe + i * 6 + 1,none⟩ = some (.int .i64 y.1.at_) ∧ be < W'.heap.size) (World.drew (W.alloc (.cells #[.int .i64 (inI x.cs z.1),.int .i64 y.1.at_] 45))):=⟨h9w,h9l.c1.1,h9k.c1.1,(h9w.cell (p:=⟨be,oe + i * 6 + 1,none⟩) HBE.out).trans HE1.out,Nat.lt_of_lt_of_le HBE.out h9w.size⟩
          have HS9:=Lib.hid hs9
          clear h9o h97 h9l h9k h9b h9m h9w h9c h9s hkf hww hbb9 hs9 hz9
          obtain ⟨m0,mf0⟩:=(show Blk (World.drew W) n7 55 #[.slice p1 m c1] from bO.drew).c1
          have HLPRE:=Lib.hid hlt'
          have hmx:Tryz.prog.follows .mixedOrders = true:=by kernel_rfl
          clear bO oO hD
          gi_upto_region 12 with (fail)
          refine wpIn_region_of_any hmx (by intro a w h;exact h) (by kernel_rfl) (wpAny_of_held (S:=(fun W' => Below w.heap.size w W' ∧ W'.cell? ⟨w.heap.size,0,none⟩ = some (.slice (some ⟨be,oe,none⟩) M.length cc) ∧ W'.cell? ⟨n10,0,none⟩ = some (.int .i64 (i:Int)) ∧ W'.cell? ⟨be,oe + i * 6 + 1,none⟩ = some (.int .i64 y.1.at_) ∧ be < W'.heap.size)) _ _ _ _ ?_)
          change wpAnyH _ _ _ _ _ _ _ _ (World.drew _)
          have hHeld:=HS0.out
          refine wpAnyH_take (i:=1) (v:=?v1) rfl (by kernel_rfl) (by kernel_rfl) (by kernel_rfl) (fun _ _ _ h => h) (Or.inl ⟨by rfl,?hy1⟩) (by assumption) ?rest1
          case hy1 => ((intro w hSw;(try dsimp only at hSw);go_simp);try with_reducible rfl)
          try simp only [Act.put,List.setIfInBounds_toArray,List.set_cons_zero,List.set_cons_succ]
          refine wpAnyH_take (i:=2) (v:=?v2) rfl (by kernel_rfl) (by kernel_rfl) (by kernel_rfl) (fun _ _ _ h => h) (Or.inl ⟨by rfl,?hy2⟩) (by assumption) ?rest2
          case hy2 => ((intro w hSw;(try dsimp only at hSw);go_simp);try with_reducible rfl)
          try simp only [Act.put,List.setIfInBounds_toArray,List.set_cons_zero,List.set_cons_succ]
          refine wpAnyH_take (i:=3) (v:=?v3) rfl (by kernel_rfl) (by kernel_rfl) (by kernel_rfl) (fun _ _ _ h => h) (Or.inl ⟨by rfl,?hy3⟩) (by assumption) ?rest3
          case hy3 => ((intro w hSw;(try dsimp only at hSw);go_simp);try with_reducible rfl)
          try simp only [Act.put,List.setIfInBounds_toArray,List.set_cons_zero,List.set_cons_succ]
          refine wpAnyH_take (i:=4) (v:=?v4) rfl (by kernel_rfl) (by kernel_rfl) (by kernel_rfl) (fun _ _ _ h => h) (Or.inl ⟨by rfl,?hy4⟩) (by assumption) ?rest4
          case hy4 => ((intro w hSw;(try dsimp only at hSw);go_simp);try with_reducible rfl)
          try simp only [Act.put,List.setIfInBounds_toArray,List.set_cons_zero,List.set_cons_succ]
          refine wpAnyH_take (i:=5) (v:=?v5) rfl (by kernel_rfl) (by kernel_rfl) (by kernel_rfl) (fun _ _ _ h => h) (Or.inl ⟨by rfl,?hy5⟩) (by assumption) ?rest5
          case hy5 => ((intro w hSw;(try dsimp only at hSw);go_simp);try with_reducible rfl)
          try simp only [Act.put,List.setIfInBounds_toArray,List.set_cons_zero,List.set_cons_succ]
          refine wpAnyH_take (i:=6) (v:=?v6) rfl (by kernel_rfl) (by kernel_rfl) (by kernel_rfl) (fun _ _ _ h => h) (Or.inl ⟨by rfl,?hy6⟩) (by assumption) ?rest6
          case hy6 => ((intro w hSw;(try dsimp only at hSw);go_simp);try with_reducible rfl)
          try simp only [Act.put,List.setIfInBounds_toArray,List.set_cons_zero,List.set_cons_succ]
          refine wpAnyH_take (i:=7) (v:=?v7) rfl (by kernel_rfl) (by kernel_rfl) (by kernel_rfl) (fun _ _ _ h => h) (Or.inl ⟨by rfl,?hy7⟩) (by assumption) ?rest7
          case hy7 => ((intro w hSw;(try dsimp only at hSw);go_simp);try with_reducible rfl)
          try simp only [Act.put,List.setIfInBounds_toArray,List.set_cons_zero,List.set_cons_succ]
          refine wpAnyH_ready (rs:=[0,8]) (by kernel_rfl) (by simp) ?_
          refine AllReadyH.cons (o:=_) rfl (fun K hK => ?_) (AllReadyH.cons (o:=_) rfl (fun K hK => ?_) AllReadyH.nil)
          · try simp only [List.getElem_toArray,List.getElem_cons_succ,List.getElem_cons_zero]
            go_simp
            refine hK.out _ _ ?_ (fun hHeld2 => ?_)
            · exact HS0.out
            clear hHeld hK K
            have hHeld:=hHeld2;clear hHeld2
            try simp only [Act.put,List.setIfInBounds_toArray,List.set_cons_zero,List.set_cons_succ]
            refine wpAnyH_ready (rs:=[8]) (by kernel_rfl) (by simp) ?_
            refine AllReadyH.cons (o:=_) rfl (fun K hK => ?_) AllReadyH.nil
            try simp only [List.getElem_toArray,List.getElem_cons_succ,List.getElem_cons_zero]
            go_simp
            refine hK.out _ _ ?_ (fun hHeld2 => ?_)
            · exact HS9.out
            clear hHeld hK K
            have hHeld:=hHeld2;clear hHeld2
            try simp only [Act.put,List.setIfInBounds_toArray,List.set_cons_zero,List.set_cons_succ]
            generalize World.drew (W.alloc (.cells #[.int .i64 (inI x.cs z.1),.int .i64 y.1.at_] 45)) = W9 at *
            obtain ⟨p2,c2,w9,hr,ho2,hb2,hko,hsm⟩:=append_one (P:=Tryz.prog) 55 55 45 i0 (.agg #[.int .i64 0,.int .i64 0]) Tryz.underlying55 hi hz0 hz1 hz2 rfl (b:=W.heap.size) H9O.out (inI x.cs z.1,y.1.at_) H9C.out (by rw [List.length_append,tkP_len];have:=HLEN.out;have:=HCS.out;omega) H9S.out
            rw [HMm.out] at hr
            have HR:Hid (∀ ty,(Builtin.append_ #[55,55] ty #[.slice p1 m c1,.slice (some ⟨W.heap.size,0,none⟩) 1 1]).run Tryz.prog W9 = .ok (.slice p2 (m + 1) c2) w9):=Lib.hid (fun _ => hr)
            have HO2:=Lib.hid ho2;have HB2:=Lib.hid hb2;have HKO:=Lib.hid hko;have HSM:=Lib.hid hsm;clear hr ho2 hb2 hko hsm
            have h7:=H97.out.same H9O.out (by decide) HSM.out
            have hl:=H9L.out.same H9O.out (by decide) HSM.out
            have hk:=H9K.out.same H9O.out (by decide) HSM.out
            have hB:=H9B.out.same H9O.out (by decide) HSM.out
            have hmk:=H9M.out.others HKO.out
            have hbw:=H9W.out.trans HB2.out
            have hs12:(fun W' => Below w.heap.size w W' ∧ W'.cell? ⟨w.heap.size,0,none⟩ = some (.slice (some ⟨be,oe,none⟩) M.length cc) ∧ W'.cell? ⟨n10,0,none⟩ = some (.int .i64 (i:Int)) ∧ W'.cell? ⟨be,oe + i * 6 + 1,none⟩ = some (.int .i64 y.1.at_) ∧ be < W'.heap.size) w9:=⟨hbw,hl.c1.1,hk.c1.1,(hbw.cell (p:=⟨be,oe + i * 6 + 1,none⟩) HBE.out).trans HE1.out,Nat.lt_of_lt_of_le HBE.out hbw.size⟩
            have HH7:=Lib.hid h7;have HHL:=Lib.hid hl;have HHK:=Lib.hid hk;have HHB:=Lib.hid hB;have HHM:=Lib.hid hmk;have HHW:=Lib.hid hbw;have HS12:=Lib.hid hs12;clear h7 hl hk hB hmk hbw hs12
            refine wpAnyH_ready (rs:=[9]) (by kernel_rfl) (by simp) ?_
            refine AllReadyH.cons (o:=_) rfl (fun K hK => ?_) AllReadyH.nil
            try simp only [List.getElem_toArray,List.getElem_cons_succ,List.getElem_cons_zero]
            refine step_append_run2 (o:={ dst:=some 48,op:=.call { callee:=.builtin .append,args:=#[.tmp 39,.tmp 47],argTypes:=#[55,55] },type:=55,pos:=_,after:=_,guard:=none }) rfl ?_ (.tmp 39) (.tmp 47) 55 rfl _ _ ?_ ?_ (HR.out _) ?_
            · rfl
            · simp [Act.eval,Act.put]
            · simp [Act.eval,Act.put]
            refine hK.out _ _ ?_ (fun hHeld2 => ?_)
            · exact HS12.out
            clear hHeld hK K
            have hHeld:=hHeld2;clear hHeld2
            try simp only [Act.put,List.setIfInBounds_toArray,List.set_cons_zero,List.set_cons_succ]
            obtain ⟨s0,sf0⟩:=HH7.out.c1
            have hne7:=ownR_ne HO2.out HH7.out (by decide)
            have hst:(fun W' => Below w.heap.size w W' ∧ W'.cell? ⟨w.heap.size,0,none⟩ = some (.slice (some ⟨be,oe,none⟩) M.length cc) ∧ W'.cell? ⟨n10,0,none⟩ = some (.int .i64 (i:Int)) ∧ W'.cell? ⟨be,oe + i * 6 + 1,none⟩ = some (.int .i64 y.1.at_) ∧ be < W'.heap.size) (w9.setCell ⟨n7,0,none⟩ (.slice p2 (m + 1) c2)):=⟨HHW.out.setCell (p:=⟨n7,0,none⟩) (Nat.le_of_lt HN7.out) _,((HHL.out.far (p:=⟨n7,0,none⟩) (by show w.heap.size ≠ n7;have:=HN7.out;omega) _).c1.1),((HHK.out.far (p:=⟨n7,0,none⟩) (by show n10 ≠ n7;have:=HN10.out;omega) _).c1.1),((HHW.out.setCell (p:=⟨n7,0,none⟩) (Nat.le_of_lt HN7.out) _).cell (p:=⟨be,oe + i * 6 + 1,none⟩) HBE.out).trans HE1.out,Nat.lt_of_lt_of_le HBE.out (HHW.out.setCell (p:=⟨n7,0,none⟩) (Nat.le_of_lt HN7.out) (.slice p2 (m + 1) c2)).size⟩
            have HST:=Lib.hid hst;clear hst
            refine wpAnyH_ready (rs:=[10]) (by kernel_rfl) (by simp) ?_
            refine AllReadyH.cons (o:=_) rfl (fun K hK => ?_) AllReadyH.nil
            try simp only [List.getElem_toArray,List.getElem_cons_succ,List.getElem_cons_zero]
            go_simp
            refine hK.out _ _ ?_ (fun hHeld2 => ?_)
            · exact HST.out
            clear hHeld hK K
            have hHeld:=hHeld2;clear hHeld2
            try simp only [Act.put,List.setIfInBounds_toArray,List.set_cons_zero,List.set_cons_succ]
            refine wpAnyH_done (by kernel_rfl) ?_ _
            gi_wp2
            have hlen:((movedL (M.map (·.1)) ((N.map (·.1)).take k)) ++ tkP x.cs y.1.at_ (pre ++ [z])).length = m + 1:=by rw [tkP_snoc,← List.append_assoc,List.length_append,HMm.out];rfl
            have htl:((movedL (M.map (·.1)) ((N.map (·.1)).take k)) ++ tkP x.cs y.1.at_ (pre ++ [z])) = ((movedL (M.map (·.1)) ((N.map (·.1)).take k)) ++ tkP x.cs y.1.at_ pre) ++ [(inI x.cs z.1,y.1.at_)]:=by rw [tkP_snoc,← List.append_assoc]
            refine ⟨(HKF.out.trans (HKO.out.from _)).trans ((KeepsOthers.setCell _ _ _).from _),⟨(HWW.out.trans HB2.out).setCell (p:=⟨n7,0,none⟩) (Nat.le_of_lt HN7.out) _,?_⟩,⟨fun b hb => ?_,⟨p2,c2,?_,?_⟩,?_⟩,HHW.out.setCell (p:=⟨n7,0,none⟩) (Nat.le_of_lt HN7.out) _,Nat.le_trans hsz (Nat.le_trans HSZ9.out (by have:=HB2.out.size;simpa using this))⟩
            · exact ((HHB.out.far (p:=⟨n7,0,none⟩) (by show B ≠ n7;have:=HN10.out;omega) _).trans HBB.out.symm)
            · simp only [List.mem_cons,List.not_mem_nil,or_false] at hb
              rcases hb with rfl | rfl | rfl
              · exact HHL.out.far (p:=⟨n7,0,none⟩) (by show w.heap.size ≠ n7;have:=HN7.out;omega) _
              · exact HHK.out.far (p:=⟨n7,0,none⟩) (by show n10 ≠ n7;have:=HN10.out;omega) _
              · exact HHB.out.far (p:=⟨n7,0,none⟩) (by show B ≠ n7;have:=HN10.out;omega) _
            · rw [← List.length_append,hlen];simpa using HH7.out.set_ 0 (.slice p2 (m + 1) c2)
            · rw [htl];exact HO2.out.turned fun g cur hg _ => Below.heap_setCell w9 ⟨n7,0,none⟩ _ g (fun e => hne7 _ hg e)
            · exact HHM.out.others (KeepsOthers.setCell _ _ _)
          · try simp only [List.getElem_toArray,List.getElem_cons_succ,List.getElem_cons_zero]
            go_simp
            refine hK.out _ _ ?_ (fun hHeld2 => ?_)
            · exact HS9.out
            clear hHeld hK K
            have hHeld:=hHeld2;clear hHeld2
            try simp only [Act.put,List.setIfInBounds_toArray,List.set_cons_zero,List.set_cons_succ]
            obtain ⟨m0,mf0⟩:=H97.out.c1
            generalize World.drew (W.alloc (.cells #[.int .i64 (inI x.cs z.1),.int .i64 y.1.at_] 45)) = W9 at *
            refine wpAnyH_ready (rs:=[0]) (by kernel_rfl) (by simp) ?_
            refine AllReadyH.cons (o:=_) rfl (fun K hK => ?_) AllReadyH.nil
            try simp only [List.getElem_toArray,List.getElem_cons_succ,List.getElem_cons_zero]
            go_simp
            refine hK.out _ _ ?_ (fun hHeld2 => ?_)
            · exact HS9.out
            clear hHeld hK K
            have hHeld:=hHeld2;clear hHeld2
            try simp only [Act.put,List.setIfInBounds_toArray,List.set_cons_zero,List.set_cons_succ]
            clear m0 mf0
            obtain ⟨p2,c2,w9,hr,ho2,hb2,hko,hsm⟩:=append_one (P:=Tryz.prog) 55 55 45 i0 (.agg #[.int .i64 0,.int .i64 0]) Tryz.underlying55 hi hz0 hz1 hz2 rfl (b:=W.heap.size) H9O.out (inI x.cs z.1,y.1.at_) H9C.out (by rw [List.length_append,tkP_len];have:=HLEN.out;have:=HCS.out;omega) H9S.out
            rw [HMm.out] at hr
            have HR:Hid (∀ ty,(Builtin.append_ #[55,55] ty #[.slice p1 m c1,.slice (some ⟨W.heap.size,0,none⟩) 1 1]).run Tryz.prog W9 = .ok (.slice p2 (m + 1) c2) w9):=Lib.hid (fun _ => hr)
            have HO2:=Lib.hid ho2;have HB2:=Lib.hid hb2;have HKO:=Lib.hid hko;have HSM:=Lib.hid hsm;clear hr ho2 hb2 hko hsm
            have h7:=H97.out.same H9O.out (by decide) HSM.out
            have hl:=H9L.out.same H9O.out (by decide) HSM.out
            have hk:=H9K.out.same H9O.out (by decide) HSM.out
            have hB:=H9B.out.same H9O.out (by decide) HSM.out
            have hmk:=H9M.out.others HKO.out
            have hbw:=H9W.out.trans HB2.out
            have hs12:(fun W' => Below w.heap.size w W' ∧ W'.cell? ⟨w.heap.size,0,none⟩ = some (.slice (some ⟨be,oe,none⟩) M.length cc) ∧ W'.cell? ⟨n10,0,none⟩ = some (.int .i64 (i:Int)) ∧ W'.cell? ⟨be,oe + i * 6 + 1,none⟩ = some (.int .i64 y.1.at_) ∧ be < W'.heap.size) w9:=⟨hbw,hl.c1.1,hk.c1.1,(hbw.cell (p:=⟨be,oe + i * 6 + 1,none⟩) HBE.out).trans HE1.out,Nat.lt_of_lt_of_le HBE.out hbw.size⟩
            have HH7:=Lib.hid h7;have HHL:=Lib.hid hl;have HHK:=Lib.hid hk;have HHB:=Lib.hid hB;have HHM:=Lib.hid hmk;have HHW:=Lib.hid hbw;have HS12:=Lib.hid hs12;clear h7 hl hk hB hmk hbw hs12
            refine wpAnyH_ready (rs:=[9]) (by kernel_rfl) (by simp) ?_
            refine AllReadyH.cons (o:=_) rfl (fun K hK => ?_) AllReadyH.nil
            try simp only [List.getElem_toArray,List.getElem_cons_succ,List.getElem_cons_zero]
            refine step_append_run2 (o:={ dst:=some 48,op:=.call { callee:=.builtin .append,args:=#[.tmp 39,.tmp 47],argTypes:=#[55,55] },type:=55,pos:=_,after:=_,guard:=none }) rfl ?_ (.tmp 39) (.tmp 47) 55 rfl _ _ ?_ ?_ (HR.out _) ?_
            · rfl
            · simp [Act.eval,Act.put]
            · simp [Act.eval,Act.put]
            refine hK.out _ _ ?_ (fun hHeld2 => ?_)
            · exact HS12.out
            clear hHeld hK K
            have hHeld:=hHeld2;clear hHeld2
            try simp only [Act.put,List.setIfInBounds_toArray,List.set_cons_zero,List.set_cons_succ]
            obtain ⟨s0,sf0⟩:=HH7.out.c1
            have hne7:=ownR_ne HO2.out HH7.out (by decide)
            have hst:(fun W' => Below w.heap.size w W' ∧ W'.cell? ⟨w.heap.size,0,none⟩ = some (.slice (some ⟨be,oe,none⟩) M.length cc) ∧ W'.cell? ⟨n10,0,none⟩ = some (.int .i64 (i:Int)) ∧ W'.cell? ⟨be,oe + i * 6 + 1,none⟩ = some (.int .i64 y.1.at_) ∧ be < W'.heap.size) (w9.setCell ⟨n7,0,none⟩ (.slice p2 (m + 1) c2)):=⟨HHW.out.setCell (p:=⟨n7,0,none⟩) (Nat.le_of_lt HN7.out) _,((HHL.out.far (p:=⟨n7,0,none⟩) (by show w.heap.size ≠ n7;have:=HN7.out;omega) _).c1.1),((HHK.out.far (p:=⟨n7,0,none⟩) (by show n10 ≠ n7;have:=HN10.out;omega) _).c1.1),((HHW.out.setCell (p:=⟨n7,0,none⟩) (Nat.le_of_lt HN7.out) _).cell (p:=⟨be,oe + i * 6 + 1,none⟩) HBE.out).trans HE1.out,Nat.lt_of_lt_of_le HBE.out (HHW.out.setCell (p:=⟨n7,0,none⟩) (Nat.le_of_lt HN7.out) (.slice p2 (m + 1) c2)).size⟩
            have HST:=Lib.hid hst;clear hst
            refine wpAnyH_ready (rs:=[10]) (by kernel_rfl) (by simp) ?_
            refine AllReadyH.cons (o:=_) rfl (fun K hK => ?_) AllReadyH.nil
            try simp only [List.getElem_toArray,List.getElem_cons_succ,List.getElem_cons_zero]
            go_simp
            refine hK.out _ _ ?_ (fun hHeld2 => ?_)
            · exact HST.out
            clear hHeld hK K
            have hHeld:=hHeld2;clear hHeld2
            try simp only [Act.put,List.setIfInBounds_toArray,List.set_cons_zero,List.set_cons_succ]
            refine wpAnyH_done (by kernel_rfl) ?_ _
            gi_wp2
            have hlen:((movedL (M.map (·.1)) ((N.map (·.1)).take k)) ++ tkP x.cs y.1.at_ (pre ++ [z])).length = m + 1:=by rw [tkP_snoc,← List.append_assoc,List.length_append,HMm.out];rfl
            have htl:((movedL (M.map (·.1)) ((N.map (·.1)).take k)) ++ tkP x.cs y.1.at_ (pre ++ [z])) = ((movedL (M.map (·.1)) ((N.map (·.1)).take k)) ++ tkP x.cs y.1.at_ pre) ++ [(inI x.cs z.1,y.1.at_)]:=by rw [tkP_snoc,← List.append_assoc]
            refine ⟨(HKF.out.trans (HKO.out.from _)).trans ((KeepsOthers.setCell _ _ _).from _),⟨(HWW.out.trans HB2.out).setCell (p:=⟨n7,0,none⟩) (Nat.le_of_lt HN7.out) _,?_⟩,⟨fun b hb => ?_,⟨p2,c2,?_,?_⟩,?_⟩,HHW.out.setCell (p:=⟨n7,0,none⟩) (Nat.le_of_lt HN7.out) _,Nat.le_trans hsz (Nat.le_trans HSZ9.out (by have:=HB2.out.size;simpa using this))⟩
            · exact ((HHB.out.far (p:=⟨n7,0,none⟩) (by show B ≠ n7;have:=HN10.out;omega) _).trans HBB.out.symm)
            · simp only [List.mem_cons,List.not_mem_nil,or_false] at hb
              rcases hb with rfl | rfl | rfl
              · exact HHL.out.far (p:=⟨n7,0,none⟩) (by show w.heap.size ≠ n7;have:=HN7.out;omega) _
              · exact HHK.out.far (p:=⟨n7,0,none⟩) (by show n10 ≠ n7;have:=HN10.out;omega) _
              · exact HHB.out.far (p:=⟨n7,0,none⟩) (by show B ≠ n7;have:=HN10.out;omega) _
            · rw [← List.length_append,hlen];simpa using HH7.out.set_ 0 (.slice p2 (m + 1) c2)
            · rw [htl];exact HO2.out.turned fun g cur hg _ => Below.heap_setCell w9 ⟨n7,0,none⟩ _ g (fun e => hne7 _ hg e)
            · exact HHM.out.others (KeepsOthers.setCell _ _ _)
        case done =>
          rintro D ys W hD rfl ⟨⟨hbl,⟨⟨p1,c1⟩,bO,oO⟩,hDs⟩,hBW,hsz⟩ hK
          dsimp only at bO oO
          clear HB HL HO7 HX9 HK HO HM a0 af0 o0 of0 x0 x1 x2 x3 x4 x5 xf0 xf1 xf2 xf3 xf4 xf5 k0 kf0
          have hT2:(movedL (M.map (·.1)) ((N.map (·.1)).take (k + 1))) = ((movedL (M.map (·.1)) ((N.map (·.1)).take k)) ++ tkP x.cs y.1.at_ (upF x.cs.length x.cs.length)):=by rw [HTK.out,HME.out,tkP_all]
          rw [← hT2] at bO oO
          have hLL:=hbl (w.heap.size,43,#[.slice (some ⟨be,oe,none⟩) M.length cc]) (by simp)
          dsimp only at hLL
          have HR1:=Lib.hid bO;have HR2:=Lib.hid oO;have HR3:=Lib.hid hLL;have HR4:=Lib.hid hBW
          have HR5:Hid ((D :: Ds).Nodup ∧ ∀ E ∈ D :: Ds,w.heap.size ≤ E):=Lib.hid ⟨List.nodup_cons.2 ⟨fun h => by have:=HDB.out D h;omega,HNB.out.1⟩,fun E hE => by rcases List.mem_cons.1 hE with rfl | hE;(have:=HW0.out;omega);exact HNB.out.2 E hE⟩
          have HR6:Hid (MarksAt W (D :: Ds)):=Lib.hid fun E hE => by rcases List.mem_cons.1 hE with rfl | hE;exact hK;exact hDs E hE
          clear hT2 bO oO hLL hbl hDs hBW hsz hK hD
          go_wp2_with fail
          refine ⟨(HINV.out _ _).2 ⟨_,_,_,_,_,_,_,_,_,_,_,_,_,_,_,_,_,_,_,_,?rel,rfl⟩,?measure⟩
          case rel => exact ⟨k + 1,D :: Ds,p1,c1,rfl,by first | rfl | simp,by omega,HR4,HR3,HR1,HR2,HR5,HR6⟩
          case measure => first | (simp [intOf];done) | (simp [intOf];omega)
        case stop =>
          rintro D cd_ pre W hD ⟨m,hm,rfl⟩ hF hK
          exact hF.elim
    · have hlt:¬ (k:Int) < (N.length:Int):=by omega
      obtain rfl:k = N.length:=by omega
      have hTA:(movedL (M.map (·.1)) ((N.map (·.1)).take N.length)) = movedL (M.map (·.1)) (N.map (·.1)):=by rw [show N.length = (N.map (·.1)).length from (List.length_map _).symm,List.take_length]
      rw [hTA] at HO HO7
      have HMB:=HBN.out
      obtain ⟨mv,hmv⟩:∃ mv,mv = movedL (M.map (·.1)) (N.map (·.1)):=⟨_,rfl⟩
      rw [← hmv] at HO HO7 HMB
      have HMV:=Lib.hid hmv
      clear hmv hTA
      clear o0 of0
      have hso:=fun W (p:Option Addr) (c:Nat) (Ds:List Nat) (h1:OwnR encQ 2 w.heap.size 45 W p c mv) (h2:w.heap.size ≤ W.heap.size) (h3:MarksAt W Ds) (h4:Blk W n7 55 #[.slice p mv.length c]) => own_psortM mv W p c w.heap.size n7 Ds _ h1 HMB.1 HMB.2 h2 h3 h4
      have hco:=fun W (l:List (Int × Int)) (p:Option Addr) (c:Nat) (Ds:List Nat) (h1:OwnR encQ 2 w.heap.size 45 W p c l) (h0:l.length = mv.length) (h2:w.heap.size ≤ W.heap.size) (h3:MarksAt W Ds) => own_pcompactM l W p c w.heap.size Ds h1 (by rw [h0];exact HMB.2) h2 h3
      have HSO:=Lib.hid hso;clear hso
      have HCO:=Lib.hid hco;clear hco
      clear HMB
      obtain ⟨o0,of0⟩:=HO7.out.c1
      go_wp2_with fail
      with_reducible refine ((HSO.out _ _ _ _ HO.out HB.out.size HM.out HO7.out).mono ?_)
      rintro e w4 ⟨rfl,s,hp,hs,ho,hb,hm,h7⟩
      have HP:=Lib.hid hp
      have HS:=Lib.hid hs
      have HSZ4:=Lib.hid (Nat.le_trans HB.out.size (Nat.le_trans hb.size (Nat.le_refl _)))
      have hl4:=hp.length_eq
      rw [← hl4] at h7
      have HLL:=Lib.hid hl4
      clear o0 of0 hl4
      replace HO7:=Lib.hid h7
      replace HM:=Lib.hid hm
      replace HO:=Lib.hid ho
      replace HB:=Lib.hid (HB.out.trans hb)
      clear hp hs ho hb hm h7
      obtain ⟨o0,of0⟩:=HO7.out.c1
      go_wp2_with (first | (with_reducible refine ((HCO.out _ _ _ _ _ HO.out HLL.out HB.out.size HM.out).mono ?_);rintro e w5 ⟨p5,c5,rfl,ho,hb,hm⟩;clear o0 of0 HO7;replace HM:=Lib.hid hm;have HO5:=Lib.hid ho;clear HO;replace HB:=Lib.hid (HB.out.trans hb);clear ho hb hm))
      have HPAR:Hid (ddK s s.length = parL (M.map (·.1)) (N.map (·.1))):=Lib.hid (by unfold parL;rw [← HMV.out];exact compact_puts HP.out HS.out)
      refine leaves_marks Ds _ HNB.out.1 HM.out ⟨.tuple #[.slice p5 (ddK s s.length).length c5,.int .i64 0],by simp [results,Tryz.f21,go_sem],_,rfl,?_,?_⟩
      · rw [← HPAR.out];exact (HO5.out.shut HM.out).pars
      · exact HB.out.trans (shutAll_below (w0:=w) Ds _ HNB.out.1 HNB.out.2 HM.out)
end Go.Proofs.YtbeojahilbglcaaGreatDoor
