/- A part of the proof of EffectAdds: contracts of functions, and plain facts. -/
import Derived.RangeFuncNested
import Derived.RangeFuncCalls
import Derived.OwnWalkIn
import Derived.Orders
import Derived.OrdersIn
set_option linter.unusedVariables false
namespace Lum
open Go
def noDefer (o:Oper):Bool:=match o.op with | .defer _ => false | _ => true
theorem noDefer_ne {o:Oper} (h:noDefer o = true):∀ c,o.op ≠ .defer c:=by
  intro c e;unfold noDefer at h;rw [e] at h;cases h
theorem rowsIn_wide {n:Nat} {P:Program} {row:String} {args:Array Value} {w:World} {R:Value → World → Prop} (h:Rows P row args w R):RowsIn Fence.wide n P row args w R :=
  fun c cs _ => let ⟨v,w',r,s⟩:=h c cs;⟨v,w',r,stepsIn_wide.2 s⟩
theorem wpIn_of_wp {n l:Nat} {P:Program} {o:Oper} {a:Act} {w:World} {K:Act → World → Prop} {Q:Exit → Act → World → Prop} (hd:noDefer o = true) (h:o.wp P a w K Q):o.wpIn (Fence.wide.inRound l) n P a w K Q:=by
  unfold Oper.wpIn
  unfold Oper.wp at h
  refine ⟨fun _ _ => trivial,?_⟩
  rw [Oper.semAt_plain _ _ _ (noDefer_ne hd)]
  generalize (execOp a.eval o).run P w = r at *
  cases r with
  | ok x w' =>
    cases x <;> simp only [Oper.upon, Oper.uponIn] at h ⊢ <;>
      first
        | exact h
        | exact h.elim
        | exact ⟨(fun e => by cases e),callsIn_wide.2 h⟩
        | exact ⟨(fun e => by cases e),rowsIn_wide h⟩
  | halt x w' => cases x <;> simp only [Oper.upon,Oper.uponIn] at h ⊢ <;> exact h
theorem wpOpIn_of_wpOp {n l : Nat} {P : Program} {ops : Array Oper} {Q : Exit → Act → World → Prop} (hq : ∀ a w, ¬ Q .outgrown a w) {i : Nat} (hp : ∀ o : Oper, ops[i]? = some o → noDefer o = true) {a : Act} {w : World} {K K' : Act → World → Prop} (hK : ∀ a w, K a w → K' a w) (h : wpOp P ops Q i K a w) :
    wpOpIn (Fence.wide.inRound l) n P ops Q i K' a w:=by
  unfold wpOp at h
  unfold wpOpIn
  split
  · rename_i ho;simp only [ho] at h;exact hK _ _ h
  · rename_i o ho
    simp only [ho] at h
    split
    · rename_i hw
      simp only [hw,if_true] at h
      rcases h with h | ⟨_,a',w',h⟩
      · exact Oper.wpIn_mono hK (wpIn_of_wp (hp o ho) h)
      · exact absurd h (hq _ _)
    · rename_i hw;simp only [hw] at h;exact ⟨fun _ _ => trivial,hK _ _ h⟩
theorem wpAnyIn_of_wpAny {n l : Nat} {P : Program} {md : Region.Mode} {ops : Array Oper} {Q : Exit → Act → World → Prop} (hq : ∀ a w, ¬ Q .outgrown a w) (hp : ∀ (i : Nat) (o : Oper), ops[i]? = some o → noDefer o = true) :
    ∀ (fuel:Nat) (listed:Array Bool) (a:Act) (w:World),wpAny P md ops Q fuel listed a w → wpAnyIn (Fence.wide.inRound l) n P md ops Q fuel listed a w
  | 0,_,_,_,h => h
  | fuel + 1,listed,a,w,h => ⟨h.1,fun i hi => wpOpIn_of_wpOp hq (hp i) (fun a w => wpAnyIn_of_wpAny hq hp fuel _ a w) (h.2 i hi)⟩
theorem wpIn_region_of_any {n l : Nat} {P : Program} {id : Nat} {ops : List Oper} {Q : Exit → Act → World → Prop} {a : Act} {w : World} (hm : P.follows .mixedOrders = true) (hq : ∀ a w, ¬ Q .outgrown a w) (hp : ops.all noDefer = true)
    (h:wpAny P .any ops.toArray Q ops.toArray.size (Array.replicate ops.toArray.size false) a { w with drawn:=w.drawn + 1 }):(Code.region id ops.toArray true).wpIn (Fence.wide.inRound l) n P Q a w :=
  wpIn_region_any hm (wpAnyIn_of_wpAny hq (fun i o ho => by
    rw [List.all_eq_true] at hp
    exact hp o (List.mem_of_getElem? (by simpa using ho))) _ _ _ _ h)
end Lum
