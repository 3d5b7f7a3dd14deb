/-
  Inside a fence: a region that draws its order, whose operations first read, and then, one behind the other, call or write.
-/
import Derived.Test.YtbeojahilbglcaaGreatDoorTail
set_option linter.unusedVariables false
set_option linter.unusedSimpArgs false
namespace Lum
open Go Go.RowKit Go.Shelf
def easyOp : Op → Bool
  | .move _ => true
  | .assign _ => true
  | .load _ _ => true
  | .binOp _ _ _ _ _ => true
  | .unOp _ _ _ => true
  | .indexAddr _ _ _ => true
  | .fieldAddr _ _ _ => true
  | _ => false
theorem easy_about {P : Program} {o : Oper} {w : World} {ρ : Operand → Value} (h : easyOp o.op = true) : o.about P w ρ = none := by
  unfold Oper.about
  cases ho : o.op <;> first | rfl | (rw [ho] at h; cases h)
theorem easy_defer {o : Oper} (h : easyOp o.op = true) : ∀ c, o.op ≠ .defer c := by
  intro c e; rw [e] at h; cases h
theorem easy_run {P : Program} {o : Oper} {w : World} {ρ : Operand → Value} (h : easyOp o.op = true) :
    (∃ v w', (execOp ρ o).run P w = .ok (.value v) w') ∨ (∃ w', (execOp ρ o).run P w = .ok .skip w') ∨ (∃ x w', (execOp ρ o).run P w = .halt x w') := by
  have key : ∀ s : Sem Value, (∃ v w', (do pure (Next.value (← s)) : Sem Next).run P w = .ok (.value v) w') ∨ (∃ w', (do pure (Next.value (← s)) : Sem Next).run P w = .ok .skip w') ∨ (∃ x w', (do pure (Next.value (← s)) : Sem Next).run P w = .halt x w') := by
    intro s
    rw [Sem.run_bind]
    cases h : s.run P w with
    | ok v w' => exact .inl ⟨v, w', by simp [Result.andThen, Sem.run_pure]⟩
    | halt x w' => exact .inr (.inr ⟨x, w', by simp [Result.andThen]⟩)
  unfold execOp
  cases ho : o.op <;> first | (rw [ho] at h; cases h; done) | exact key _ | exact .inl ⟨_, _, by rw [Sem.run_pure]⟩
theorem wpIn_of_still2 {F : Fence} {n : Nat} {P : Program} {o : Oper} {a : Act} {w : World} {K : Act → Prop} {K' : Act → World → Prop} {Q' : Exit → Act → World → Prop} (hp : easyOp o.op = true) (h : ∀ a, K a → K' a w) (hh : o.still P a w K) : o.wpIn F n P a w K' Q' := by
  unfold Oper.still at hh
  unfold Oper.wpIn
  refine ⟨fun f hf => (by rw [easy_about hp] at hf; cases hf), ?_⟩
  rw [Oper.semAt_plain F _ _ (easy_defer hp)]
  rcases easy_run (P := P) (w := w) (ρ := a.eval) hp with ⟨v, w', e⟩ | ⟨w', e⟩ | ⟨x, w', e⟩
  · rw [e] at hh ⊢
    have h1 : w' = w := hh.1
    have hk := hh.2
    subst h1
    exact h _ hk
  · rw [e] at hh ⊢
    have h1 : w' = w := hh.1
    have hk := hh.2
    subst h1
    exact h _ hk
  · rw [e] at hh; exact hh.elim
theorem wpOpIn_of_stOp2 {F : Fence} {n : Nat} {P : Program} {ops : Array Oper} {w : World} {i : Nat} (hp : ∀ o : Oper, ops[i]? = some o → easyOp o.op = true) {a : Act} {K : Act → Prop} {K' : Act → World → Prop} {Q' : Exit → Act → World → Prop} (h : ∀ a, K a → K' a w) (hh : stOp P ops w i K a) : wpOpIn F n P ops Q' i K' a w := by
  unfold stOp at hh
  unfold wpOpIn
  split
  · rename_i ho; simp only [ho] at hh; exact h _ hh
  · rename_i o ho
    simp only [ho] at hh
    split
    · rename_i hw; simp only [hw, if_true] at hh; exact wpIn_of_still2 (hp o ho) h hh
    · rename_i hw; simp only [hw] at hh; exact ⟨fun f hf => (by rw [easy_about (hp o ho)] at hf; cases hf), h _ hh⟩
theorem wpAnyIn_of_head2 {F : Fence} {nn : Nat} {P : Program} {ops : Array Oper} {md : Region.Mode} {w : World} {n g : Nat} (hp : ∀ (i : Nat) (o : Oper), i < n → ops[i]? = some o → easyOp o.op = true) {L : Array Bool → Act → Prop} {Q' : Exit → Act → World → Prop} (hL : ∀ listed a, L listed a → wpAnyIn F nn P md ops Q' g listed a w) :
    ∀ (f : Nat) (listed : Array Bool) (a : Act), wpAnyL P md ops w n L f listed a → wpAnyIn F nn P md ops Q' (f + g) listed a w
  | 0, listed, a, h => by rw [Nat.zero_add]; exact hL _ _ h
  | f + 1, listed, a, h => by
    rw [show f + 1 + g = (f + g) + 1 by omega]
    exact ⟨fun h0 => absurd h0 h.1, fun i hi => wpOpIn_of_stOp2 (fun o ho => hp i o (h.2 i hi).1 ho) (fun a' h' => wpAnyIn_of_head2 hp hL f _ a' h') (h.2 i hi).2⟩
theorem wpIn_region_still_call {F : Fence} {nn : Nat} {P : Program} {id : Nat} {Q : Exit → Act → World → Prop} {a : Act} {w : World} {l : List Oper} (n : Nat) (hm : P.follows .mixedOrders = true) (hB : Region.lexTailB .any l.toArray n = true)
    (hpl : (l.take n).all (fun o => easyOp o.op) = true)
    (h : wpStill P l.toArray { w with drawn := w.drawn + 1 } (fun a' => wpListIn F nn P l.toArray Q (l.drop n) a' { w with drawn := w.drawn + 1 }) (l.take n) a) : (Code.region id l.toArray true).wpIn F nn P Q a w := by
  simp only [Region.lexTailB, Bool.and_eq_true, decide_eq_true_eq] at hB
  obtain ⟨⟨⟨⟨hsel, hn⟩, hs⟩, hc⟩, hlex⟩ := hB
  have hn' : n < l.length := by simpa using hn
  have htl : (l.take n).length = n := by simp; omega
  have hdl : (l.drop n).length = l.toArray.size - n := by simp
  have hp : ∀ (i : Nat) (o : Oper), i < n → l.toArray[i]? = some o → easyOp o.op = true := fun i o hi ho => by
    rw [List.all_eq_true] at hpl
    refine hpl o (List.mem_of_getElem? (i := i) ?_)
    rw [List.getElem?_take, if_pos hi]; simpa using ho
  have inv0 : HeadInv .any l.toArray n (Array.replicate l.toArray.size false) :=
    ⟨by simp, fun j oj _ hl => (by rw [getD_replicate_false] at hl; cases hl), fun t _ ht => getD_in (by simpa using ht) (getD_replicate_false _ _)⟩
  have H := wpAnyL_lex (md := .any) (g := l.toArray.size - n) hsel hs hc hn (l.take n) 0 _ a (fun j hj => by
    have hj' : j < n := by rw [htl] at hj; exact hj
    simp [hj']) (by simpa using htl) inv0 (by rw [htl]; exact hlex) h
  refine wpIn_region_any hm ?_
  have := wpAnyIn_of_head2 (F := F) (nn := nn) (Q' := Q) hp (g := l.toArray.size - n) (fun listed a' hL => by
    have := wpAnyIn_of_seq (F := F) (nn := nn) (md := .any) (Q' := Q) (l.drop n) n listed a' { w with drawn := w.drawn + 1 } (fun j => by simp [List.getElem?_drop]) (by rw [hdl]; exact hL.1) hL.2
    rwa [hdl] at this) _ _ _ H
  rw [htl, show n + (l.toArray.size - n) = l.toArray.size by omega] at this
  exact this
end Lum
