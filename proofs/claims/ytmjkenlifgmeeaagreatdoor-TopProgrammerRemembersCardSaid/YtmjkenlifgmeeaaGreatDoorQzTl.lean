/-
  
-/
import Derived.Test.YtmjkenlifgmeeaaGreatDoorQzMf
import Derived.StillTailTactics
set_option linter.unusedVariables false
set_option linter.unusedSimpArgs false
namespace Lum
open Go Go.RowKit Go.Shelf
def plainOp : Op → Bool
  | .move _ => true
  | .assign _ => true
  | .load _ _ => true
  | .store _ _ _ => true
  | .binOp _ _ _ _ _ => true
  | .indexAddr _ _ _ => true
  | _ => false
end Lum
namespace Lum
open Go Go.RowKit Go.Shelf
def leftB (l:Array Bool):Nat:=l.toList.count false
theorem count_set (l:List Bool):∀ i,l[i]? = some false → (l.set i true).count false + 1 = l.count false:=by
  induction l with
  | nil => intro i h;simp at h
  | cons b l ih =>
    intro i h
    cases i with
    | zero => simp at h;subst h;simp
    | succ i => simp at h;have:=ih i h;simp [List.count_cons];omega
theorem getD_false {l:Array Bool} {i:Nat} (h:l.getD i true = false):l.toList[i]? = some false:=by
  rw [Array.getD_eq_getD_getElem?] at h
  rw [Array.getElem?_toList]
  cases h2:l[i]? with
  | none => rw [h2] at h;simp at h
  | some b => rw [h2] at h;simp at h;rw [h]
theorem leftB_set {l:Array Bool} {i:Nat} (h:l.getD i true = false):leftB (l.setIfInBounds i true) + 1 = leftB l:=by
  unfold leftB
  rw [Array.toList_setIfInBounds]
  exact count_set _ _ (getD_false h)
theorem leftB_zero {l:Array Bool} (h:leftB l = 0) (i:Nat):l.getD i true = true:=by
  cases h2:l.getD i true with
  | true => rfl
  | false =>
    have:=List.mem_of_getElem? (getD_false h2)
    unfold leftB at h
    rw [List.count_eq_zero] at h
    exact absurd this h
theorem wpAnyIn_inv {F : Fence} {nn : Nat} {P : Program} {md : Region.Mode} {ops : Array Oper} {Q : Exit → Act → World → Prop} (Inv : Array Bool → Act → World → Prop)
    (hs:∀ (i:Nat) (o:Oper),ops[i]? = some o → o.guard = none ∧ ∀ e ∈ o.after,e.on < i)
    (step : ∀ (listed : Array Bool) (a : Act) (w : World) (i : Nat) (o : Oper), Inv listed a w → ops[i]? = some o → listed.getD i true = false → (∀ e ∈ o.after, Region.binds md e = true → listed.getD e.on false = true) →
      o.wpIn F nn P a w (fun a' w' => Inv (listed.setIfInBounds i true) a' w') Q)
    (done:∀ (listed:Array Bool) (a:Act) (w:World),Inv listed a w → (∀ i,i < ops.size → listed.getD i false = true) → Q .normal a w) :
    ∀ (fuel:Nat) (listed:Array Bool) (a:Act) (w:World),listed.size = ops.size → Inv listed a w → leftB listed ≤ fuel → wpAnyIn F nn P md ops Q fuel listed a w:=by
  have all:∀ (listed:Array Bool),listed.size = ops.size → Region.ready md ops listed = [] → ∀ i,i < ops.size → listed.getD i false = true:=by
    intro listed hsz hr i
    induction i using Nat.strongRecOn with
    | _ i ih =>
      intro hi
      cases h:listed.getD i false with
      | true => rfl
      | false =>
        obtain ⟨o,ho⟩:∃ o,ops[i]? = some o:=⟨ops[i],by simp [hi]⟩
        have hm:i ∈ Region.ready md ops listed:=mem_ready.2 ⟨getD_in (by omega) h,o,ho,fun e he hb => ih e.on ((hs i o ho).2 e he) (by have:=(hs i o ho).2 e he;omega)⟩
        rw [hr] at hm;cases hm
  intro fuel
  induction fuel with
  | zero =>
    intro listed a w hsz hI hl
    have hr:Region.ready md ops listed = []:=by
      rw [List.eq_nil_iff_forall_not_mem]
      intro j hj
      have:=(mem_ready.1 hj).1
      rw [leftB_zero (by omega) j] at this;cases this
    exact ⟨hr,done _ _ _ hI (all listed hsz hr)⟩
  | succ fuel ih =>
    intro listed a w hsz hI hl
    refine ⟨fun hr => done _ _ _ hI (all listed hsz hr),fun i hi => ?_⟩
    obtain ⟨h1,o,ho,h2⟩:=mem_ready.1 hi
    unfold wpOpIn
    simp only [ho,Region.wanted,(hs i o ho).1,if_true]
    refine Oper.wpIn_mono (fun a' w' hI' => ih _ a' w' (by simpa using hsz) hI' (by have:=leftB_set h1;omega)) (step _ _ _ _ _ hI ho h1 h2)
def orderedB (l:List Oper):Bool:=(List.range l.length).all fun i => match l[i]? with | some o => o.guard.isNone && o.after.all (fun e => decide (e.on < i)) | none => true
theorem orderedB_spec {l:List Oper} (h:orderedB l = true):∀ (i:Nat) (o:Oper),l.toArray[i]? = some o → o.guard = none ∧ ∀ e ∈ o.after,e.on < i:=by
  intro i o ho
  have ho':l[i]? = some o:=by simpa using ho
  have hi:i < l.length:=(List.getElem?_eq_some_iff.1 ho').1
  unfold orderedB at h
  rw [List.all_eq_true] at h
  have:=h i (List.mem_range.2 hi)
  rw [ho'] at this
  simp only [Bool.and_eq_true,Option.isNone_iff_eq_none,Array.all_eq_true_iff_forall_mem,decide_eq_true_eq] at this
  exact this
theorem wpIn_region_inv {F : Fence} {nn : Nat} {P : Program} {id : Nat} {Q : Exit → Act → World → Prop} {a : Act} {w : World} {l : List Oper} (hm : P.follows .mixedOrders = true) (hB : orderedB l = true) (Inv : Array Bool → Act → World → Prop)
    (h0:Inv (Array.replicate l.length false) a { w with drawn:=w.drawn + 1 })
    (step : ∀ (listed : Array Bool) (a : Act) (w : World) (i : Nat) (o : Oper), Inv listed a w → l[i]? = some o → listed.getD i true = false → (∀ e ∈ o.after, Region.binds .any e = true → listed.getD e.on false = true) →
      o.wpIn F nn P a w (fun a' w' => Inv (listed.setIfInBounds i true) a' w') Q)
    (done:∀ (listed:Array Bool) (a:Act) (w:World),Inv listed a w → (∀ i,i < l.length → listed.getD i false = true) → Q .normal a w):(Code.region id l.toArray true).wpIn F nn P Q a w:=by
  refine wpIn_region_any hm (wpAnyIn_inv Inv (orderedB_spec hB) (fun listed a w i o hI ho => step listed a w i o hI (by simpa using ho)) (fun listed a w hI hd => done listed a w hI (by simpa using hd)) _ _ _ _ (by simp) (by simpa using h0) ?_)
  unfold leftB
  simp
end Lum
