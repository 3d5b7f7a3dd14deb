/-
  
-/
import Derived.Test.YtbeojahilbglcaaGreatDoorQdMf
import Derived.StillTailTactics
set_option linter.unusedVariables false
set_option linter.unusedSimpArgs false
namespace Lum
open Go Go.RowKit Go.Shelf
def plainOp : Op → Bool
  | .move _ => true
  | .assign _ => true
  | .load _ _ => true
  | .store _ _ _ => true
  | .binOp _ _ _ _ _ => true
  | .indexAddr _ _ _ => true
  | _ => false
theorem wpAnyIn_of_seq {F : Fence} {nn : Nat} {P : Program} {ops : Array Oper} {md : Region.Mode} {Q' : Exit → Act → World → Prop} : ∀ (l : List Oper) (k : Nat) (listed : Array Bool) (a : Act) (w : World), (∀ j, l[j]? = ops[k + j]?) →
    Region.seqB md ops l.length k listed = true → wpListIn F nn P ops Q' l a w → wpAnyIn F nn P md ops Q' l.length listed a w
  | [],_,_,_,_,_,hB,h => ⟨by simpa [Region.seqB] using hB,h⟩
  | o :: l,k,listed,a,w,hl,hB,h => by
    have h0:ops[k]? = some o:=by simpa using (hl 0).symm
    simp only [List.length_cons,Region.seqB,Bool.and_eq_true,decide_eq_true_eq] at hB
    refine ⟨fun h1 => (by rw [hB.1] at h1;cases h1),fun i hi => ?_⟩
    rw [hB.1] at hi
    have hik:i = k:=by simpa using hi
    subst hik
    have hw:wpOpIn F nn P ops Q' i (wpListIn F nn P ops Q' l) a w:=by unfold wpOpIn;simp only [h0];exact h
    exact wpOpIn_mono (fun a' w' h' => wpAnyIn_of_seq l (i + 1) _ a' w' (fun j => by have:=hl (j + 1);simpa [Nat.add_assoc,Nat.add_comm 1 j] using this) hB.2 h') hw
end Lum
namespace Lum
open Go Go.RowKit Go.Shelf
def leftB (l:Array Bool):Nat:=l.toList.count false
theorem count_set (l:List Bool):∀ i,l[i]? = some false → (l.set i true).count false + 1 = l.count false:=by
  induction l with
  | nil => intro i h;simp at h
  | cons b l ih =>
    intro i h
    cases i with
    | zero => simp at h;subst h;simp
    | succ i => simp at h;have:=ih i h;simp [List.count_cons];omega
theorem getD_false {l:Array Bool} {i:Nat} (h:l.getD i true = false):l.toList[i]? = some false:=by
  rw [Array.getD_eq_getD_getElem?] at h
  rw [Array.getElem?_toList]
  cases h2:l[i]? with
  | none => rw [h2] at h;simp at h
  | some b => rw [h2] at h;simp at h;rw [h]
theorem leftB_set {l:Array Bool} {i:Nat} (h:l.getD i true = false):leftB (l.setIfInBounds i true) + 1 = leftB l:=by
  unfold leftB
  rw [Array.toList_setIfInBounds]
  exact count_set _ _ (getD_false h)
theorem leftB_zero {l:Array Bool} (h:leftB l = 0) (i:Nat):l.getD i true = true:=by
  cases h2:l.getD i true with
  | true => rfl
  | false =>
    have:=List.mem_of_getElem? (getD_false h2)
    unfold leftB at h
    rw [List.count_eq_zero] at h
    exact absurd this h
theorem wpAnyIn_inv {F : Fence} {nn : Nat} {P : Program} {md : Region.Mode} {ops : Array Oper} {Q : Exit → Act → World → Prop} (Inv : Array Bool → Act → World → Prop)
    (hs:∀ (i:Nat) (o:Oper),ops[i]? = some o → o.guard = none ∧ ∀ e ∈ o.after,e.on < i)
    (step : ∀ (listed : Array Bool) (a : Act) (w : World) (i : Nat) (o : Oper), Inv listed a w → ops[i]? = some o → listed.getD i true = false → (∀ e ∈ o.after, Region.binds md e = true → listed.getD e.on false = true) →
      o.wpIn F nn P a w (fun a' w' => Inv (listed.setIfInBounds i true) a' w') Q)
    (done:∀ (listed:Array Bool) (a:Act) (w:World),Inv listed a w → (∀ i,i < ops.size → listed.getD i false = true) → Q .normal a w) :
    ∀ (fuel:Nat) (listed:Array Bool) (a:Act) (w:World),listed.size = ops.size → Inv listed a w → leftB listed ≤ fuel → wpAnyIn F nn P md ops Q fuel listed a w:=by
  have all:∀ (listed:Array Bool),listed.size = ops.size → Region.ready md ops listed = [] → ∀ i,i < ops.size → listed.getD i false = true:=by
    intro listed hsz hr i
    induction i using Nat.strongRecOn with
    | _ i ih =>
      intro hi
      cases h:listed.getD i false with
      | true => rfl
      | false =>
        obtain ⟨o,ho⟩:∃ o,ops[i]? = some o:=⟨ops[i],by simp [hi]⟩
        have hm:i ∈ Region.ready md ops listed:=mem_ready.2 ⟨getD_in (by omega) h,o,ho,fun e he hb => ih e.on ((hs i o ho).2 e he) (by have:=(hs i o ho).2 e he;omega)⟩
        rw [hr] at hm;cases hm
  intro fuel
  induction fuel with
  | zero =>
    intro listed a w hsz hI hl
    have hr:Region.ready md ops listed = []:=by
      rw [List.eq_nil_iff_forall_not_mem]
      intro j hj
      have:=(mem_ready.1 hj).1
      rw [leftB_zero (by omega) j] at this;cases this
    exact ⟨hr,done _ _ _ hI (all listed hsz hr)⟩
  | succ fuel ih =>
    intro listed a w hsz hI hl
    refine ⟨fun hr => done _ _ _ hI (all listed hsz hr),fun i hi => ?_⟩
    obtain ⟨h1,o,ho,h2⟩:=mem_ready.1 hi
    unfold wpOpIn
    simp only [ho,Region.wanted,(hs i o ho).1,if_true]
    refine Oper.wpIn_mono (fun a' w' hI' => ih _ a' w' (by simpa using hsz) hI' (by have:=leftB_set h1;omega)) (step _ _ _ _ _ hI ho h1 h2)
def orderedB (l:List Oper):Bool:=(List.range l.length).all fun i => match l[i]? with | some o => o.guard.isNone && o.after.all (fun e => decide (e.on < i)) | none => true
theorem orderedB_spec {l:List Oper} (h:orderedB l = true):∀ (i:Nat) (o:Oper),l.toArray[i]? = some o → o.guard = none ∧ ∀ e ∈ o.after,e.on < i:=by
  intro i o ho
  have ho':l[i]? = some o:=by simpa using ho
  have hi:i < l.length:=(List.getElem?_eq_some_iff.1 ho').1
  unfold orderedB at h
  rw [List.all_eq_true] at h
  have:=h i (List.mem_range.2 hi)
  rw [ho'] at this
  simp only [Bool.and_eq_true,Option.isNone_iff_eq_none,Array.all_eq_true_iff_forall_mem,decide_eq_true_eq] at this
  exact this
theorem wpIn_region_inv {F : Fence} {nn : Nat} {P : Program} {id : Nat} {Q : Exit → Act → World → Prop} {a : Act} {w : World} {l : List Oper} (hm : P.follows .mixedOrders = true) (hB : orderedB l = true) (Inv : Array Bool → Act → World → Prop)
    (h0:Inv (Array.replicate l.length false) a { w with drawn:=w.drawn + 1 })
    (step : ∀ (listed : Array Bool) (a : Act) (w : World) (i : Nat) (o : Oper), Inv listed a w → l[i]? = some o → listed.getD i true = false → (∀ e ∈ o.after, Region.binds .any e = true → listed.getD e.on false = true) →
      o.wpIn F nn P a w (fun a' w' => Inv (listed.setIfInBounds i true) a' w') Q)
    (done:∀ (listed:Array Bool) (a:Act) (w:World),Inv listed a w → (∀ i,i < l.length → listed.getD i false = true) → Q .normal a w):(Code.region id l.toArray true).wpIn F nn P Q a w:=by
  refine wpIn_region_any hm (wpAnyIn_inv Inv (orderedB_spec hB) (fun listed a w i o hI ho => step listed a w i o hI (by simpa using ho)) (fun listed a w hI hd => done listed a w hI (by simpa using hd)) _ _ _ _ (by simp) (by simpa using h0) ?_)
  unfold leftB
  simp
end Lum
namespace Lum
open Go Go.RowKit Go.Shelf
def easyOp : Op → Bool
  | .move _ => true
  | .assign _ => true
  | .load _ _ => true
  | .binOp _ _ _ _ _ => true
  | .unOp _ _ _ => true
  | .indexAddr _ _ _ => true
  | .fieldAddr _ _ _ => true
  | _ => false
theorem easy_about {P:Program} {o:Oper} {w:World} {ρ:Operand → Value} (h:easyOp o.op = true):o.about P w ρ = none:=by
  unfold Oper.about
  cases ho:o.op <;> first | rfl | (rw [ho] at h;cases h)
theorem easy_defer {o:Oper} (h:easyOp o.op = true):∀ c,o.op ≠ .defer c:=by
  intro c e;rw [e] at h;cases h
theorem easy_run {P : Program} {o : Oper} {w : World} {ρ : Operand → Value} (h : easyOp o.op = true) :
    (∃ v w',(execOp ρ o).run P w = .ok (.value v) w') ∨ (∃ w',(execOp ρ o).run P w = .ok .skip w') ∨ (∃ x w',(execOp ρ o).run P w = .halt x w'):=by
  have key:∀ s:Sem Value,(∃ v w',(do pure (Next.value (← s)):Sem Next).run P w = .ok (.value v) w') ∨ (∃ w',(do pure (Next.value (← s)):Sem Next).run P w = .ok .skip w') ∨ (∃ x w',(do pure (Next.value (← s)):Sem Next).run P w = .halt x w'):=by
    intro s
    rw [Sem.run_bind]
    cases h:s.run P w with
    | ok v w' => exact .inl ⟨v,w',by simp [Result.andThen,Sem.run_pure]⟩
    | halt x w' => exact .inr (.inr ⟨x,w',by simp [Result.andThen]⟩)
  unfold execOp
  cases ho:o.op <;> first | (rw [ho] at h;cases h;done) | exact key _ | exact .inl ⟨_,_,by rw [Sem.run_pure]⟩
theorem wpIn_of_still2 {F:Fence} {n:Nat} {P:Program} {o:Oper} {a:Act} {w:World} {K:Act → Prop} {K':Act → World → Prop} {Q':Exit → Act → World → Prop} (hp:easyOp o.op = true) (h:∀ a,K a → K' a w) (hh:o.still P a w K):o.wpIn F n P a w K' Q':=by
  unfold Oper.still at hh
  unfold Oper.wpIn
  refine ⟨fun f hf => (by rw [easy_about hp] at hf;cases hf),?_⟩
  rw [Oper.semAt_plain F _ _ (easy_defer hp)]
  rcases easy_run (P:=P) (w:=w) (ρ:=a.eval) hp with ⟨v,w',e⟩ | ⟨w',e⟩ | ⟨x,w',e⟩
  · rw [e] at hh ⊢
    have h1:w' = w:=hh.1
    have hk:=hh.2
    subst h1
    exact h _ hk
  · rw [e] at hh ⊢
    have h1:w' = w:=hh.1
    have hk:=hh.2
    subst h1
    exact h _ hk
  · rw [e] at hh;exact hh.elim
theorem wpOpIn_of_stOp2 {F:Fence} {n:Nat} {P:Program} {ops:Array Oper} {w:World} {i:Nat} (hp:∀ o:Oper,ops[i]? = some o → easyOp o.op = true) {a:Act} {K:Act → Prop} {K':Act → World → Prop} {Q':Exit → Act → World → Prop} (h:∀ a,K a → K' a w) (hh:stOp P ops w i K a):wpOpIn F n P ops Q' i K' a w:=by
  unfold stOp at hh
  unfold wpOpIn
  split
  · rename_i ho;simp only [ho] at hh;exact h _ hh
  · rename_i o ho
    simp only [ho] at hh
    split
    · rename_i hw;simp only [hw,if_true] at hh;exact wpIn_of_still2 (hp o ho) h hh
    · rename_i hw;simp only [hw] at hh;exact ⟨fun f hf => (by rw [easy_about (hp o ho)] at hf;cases hf),h _ hh⟩
theorem wpAnyIn_of_head2 {F : Fence} {nn : Nat} {P : Program} {ops : Array Oper} {md : Region.Mode} {w : World} {n g : Nat} (hp : ∀ (i : Nat) (o : Oper), i < n → ops[i]? = some o → easyOp o.op = true) {L : Array Bool → Act → Prop} {Q' : Exit → Act → World → Prop} (hL : ∀ listed a, L listed a → wpAnyIn F nn P md ops Q' g listed a w) :
    ∀ (f:Nat) (listed:Array Bool) (a:Act),wpAnyL P md ops w n L f listed a → wpAnyIn F nn P md ops Q' (f + g) listed a w
  | 0,listed,a,h => by rw [Nat.zero_add];exact hL _ _ h
  | f + 1,listed,a,h => by
    rw [show f + 1 + g = (f + g) + 1 by omega]
    exact ⟨fun h0 => absurd h0 h.1,fun i hi => wpOpIn_of_stOp2 (fun o ho => hp i o (h.2 i hi).1 ho) (fun a' h' => wpAnyIn_of_head2 hp hL f _ a' h') (h.2 i hi).2⟩
theorem wpIn_region_still_call {F : Fence} {nn : Nat} {P : Program} {id : Nat} {Q : Exit → Act → World → Prop} {a : Act} {w : World} {l : List Oper} (n : Nat) (hm : P.follows .mixedOrders = true) (hB : Region.lexTailB .any l.toArray n = true)
    (hpl:(l.take n).all (fun o => easyOp o.op) = true)
    (h:wpStill P l.toArray { w with drawn:=w.drawn + 1 } (fun a' => wpListIn F nn P l.toArray Q (l.drop n) a' { w with drawn:=w.drawn + 1 }) (l.take n) a):(Code.region id l.toArray true).wpIn F nn P Q a w:=by
  simp only [Region.lexTailB,Bool.and_eq_true,decide_eq_true_eq] at hB
  obtain ⟨⟨⟨⟨hsel,hn⟩,hs⟩,hc⟩,hlex⟩:=hB
  have hn':n < l.length:=by simpa using hn
  have htl:(l.take n).length = n:=by simp;omega
  have hdl:(l.drop n).length = l.toArray.size - n:=by simp
  have hp:∀ (i:Nat) (o:Oper),i < n → l.toArray[i]? = some o → easyOp o.op = true:=fun i o hi ho => by
    rw [List.all_eq_true] at hpl
    refine hpl o (List.mem_of_getElem? (i:=i) ?_)
    rw [List.getElem?_take,if_pos hi];simpa using ho
  have inv0:HeadInv .any l.toArray n (Array.replicate l.toArray.size false) :=
    ⟨by simp,fun j oj _ hl => (by rw [getD_replicate_false] at hl;cases hl),fun t _ ht => getD_in (by simpa using ht) (getD_replicate_false _ _)⟩
  have H:=wpAnyL_lex (md:=.any) (g:=l.toArray.size - n) hsel hs hc hn (l.take n) 0 _ a (fun j hj => by
    have hj':j < n:=by rw [htl] at hj;exact hj
    simp [hj']) (by simpa using htl) inv0 (by rw [htl];exact hlex) h
  refine wpIn_region_any hm ?_
  have:=wpAnyIn_of_head2 (F:=F) (nn:=nn) (Q':=Q) hp (g:=l.toArray.size - n) (fun listed a' hL => by
    have:=wpAnyIn_of_seq (F:=F) (nn:=nn) (md:=.any) (Q':=Q) (l.drop n) n listed a' { w with drawn:=w.drawn + 1 } (fun j => by simp [List.getElem?_drop]) (by rw [hdl];exact hL.1) hL.2
    rwa [hdl] at this) _ _ _ H
  rw [htl,show n + (l.toArray.size - n) = l.toArray.size by omega] at this
  exact this
end Lum
