/-
  A region that draws its order, whose operations only read and whose callees leave what was there: walked once, in the order of the text. A quiet region walked through a structure, into which whnf does not look.
-/
import Derived.Deep.QuietTactic
import Derived.Test.YtikogofioggmlaaGreatDoorInR
import Derived.Test.YtikogofioggmlaaGreatDoorWa
set_option linter.unusedVariables false
set_option linter.unusedSimpArgs false
namespace Lum
open Go Go.RowKit
/-- A world in which all that lay in W lies unturned. -/
structure BelowOf (W : World) where
  w : World
  h : Below W.heap.size W w
instance (W : World) : Inhabited (BelowOf W) := ⟨⟨W, Below.refl _ _⟩⟩
theorem BelowOf.cell {W : World} {a : Addr} {v : Value} (hb : a.block < W.heap.size) (h : W.cell? a = some v) (p : BelowOf W) : p.w.cell? a = some v := (p.h.cell hb).trans h
theorem wp_region_quiet_below {P : Program} {id : Nat} {Q : Exit → Act → World → Prop} {a : Act} {w : World} {l : List Oper} (hm : P.follows .mixedOrders = true) (hB : Region.lexB .any l.toArray = true)
    (h : wpQuiet P l.toArray (fun w' => ∃ p : BelowOf w, w' = p.w) (fun a' => ∀ w', (∃ p : BelowOf w, w' = p.w) → Q .normal a' w') l a) : (Code.region id l.toArray true).wp P Q a w :=
  wp_region_quiet (C := fun w' => ∃ p : BelowOf w, w' = p.w) hm hB ⟨⟨w.drew, (Below.refl _ w).drew⟩, rfl⟩ (by simpa using h)
/-! ### The same for a great region: the guards' values by a table of their own, the edges struck -/
def stripO (o : Oper) : Oper := { o with after := #[] }
def asB : Option Value → Option Bool
  | some (.bool b) => some b
  | _ => none
theorem asB_bool (b : Bool) : asB (some (.bool b)) = some b := rfl
def wpQY (P : Program) (Y : Array Value → Nat → Option Bool) (C : World → Prop) (Q : Act → Prop) : List Oper → Act → Prop
  | [], a => Q a
  | o :: rest, a => if Region.wanted o (Y a.tmps) then o.quiet P a C (wpQY P Y C Q rest) else wpQY P Y C Q rest (a.put o.dst undef)
theorem wpQY_nil {P : Program} {Y : Array Value → Nat → Option Bool} {C : World → Prop} {Q : Act → Prop} {a : Act} (h : Q a) : wpQY P Y C Q [] a := h
theorem wpQY_step {P : Program} {Y : Array Value → Nat → Option Bool} {C : World → Prop} {Q : Act → Prop} {a : Act} {o : Oper} {rest : List Oper}
    (h : ∀ K : Act → Prop, Hid (∀ a, wpQY P Y C Q rest a → K a) → if Region.wanted o (Y a.tmps) then o.quiet P a C K else K (a.put o.dst undef)) : wpQY P Y C Q (o :: rest) a :=
  h _ (fun _ h => h)
theorem wpQuiet_of_QY {P : Program} {ops : Array Oper} {C : World → Prop} {Q : Act → Prop} : ∀ (l : List Oper) (a : Act), wpQY P (yielded ops) C Q (l.map stripO) a → wpQuiet P ops C Q l a
  | [], _, h => h
  | o :: rest, a, h => by
    have h' : if Region.wanted o (yielded ops a.tmps) then o.quiet P a C (wpQY P (yielded ops) C Q (rest.map stripO)) else wpQY P (yielded ops) C Q (rest.map stripO) (a.put o.dst undef) := h
    unfold wpQuiet
    split at h'
    · rename_i hw; rw [if_pos hw]; exact Oper.quiet_mono (fun a' => wpQuiet_of_QY rest a') h'
    · rename_i hw; rw [if_neg hw]; exact wpQuiet_of_QY rest _ h'
theorem wp_region_quietY {P : Program} {id : Nat} {Q : Exit → Act → World → Prop} {a : Act} {w : World} {l : List Oper} (gs : List (Nat × Nat)) (hm : P.follows .mixedOrders = true) (hB : Region.lexB .any l.toArray = true)
    (hg : gs.all (fun g => decide ((l.toArray[g.1]?).bind (·.dst) = some g.2)) = true)
    (h : ∀ Y : Array Value → Nat → Option Bool, (∀ g ∈ gs, ∀ t, Y t g.1 = asB t[g.2]?) → wpQY P Y (fun w' => ∃ p : BelowOf w, w' = p.w) (fun a' => ∀ w', (∃ p : BelowOf w, w' = p.w) → Q .normal a' w') (l.map stripO) a) : (Code.region id l.toArray true).wp P Q a w :=
  wp_region_quiet_below hm hB (wpQuiet_of_QY l a (h _ fun g hgm t => by
    rw [List.all_eq_true] at hg
    have := of_decide_eq_true (hg g hgm)
    unfold yielded asB
    rw [this]
    rfl))
theorem wpIn_region_quiet_below {n l0 : Nat} {P : Program} {id : Nat} {Q : Exit → Act → World → Prop} {a : Act} {w : World} {l : List Oper} (hm : P.follows .mixedOrders = true) (hq : ∀ a w, ¬ Q .outgrown a w) (hp : l.all noDefer = true) (hB : Region.lexB .any l.toArray = true)
    (h : wpQuiet P l.toArray (fun w' => ∃ p : BelowOf w, w' = p.w) (fun a' => ∀ w', (∃ p : BelowOf w, w' = p.w) → Q .normal a' w') l a) : (Code.region id l.toArray true).wpIn (Fence.wide.inRound l0) n P Q a w := by
  simp only [Region.lexB, Bool.and_eq_true] at hB
  refine wpIn_region_of_any hm hq hp (wpAny_of_quiet (C := fun w' => ∃ p : BelowOf w, w' = p.w) (Q := fun a' => ∀ w', (∃ p : BelowOf w, w' = p.w) → Q .normal a' w') (fun _ w' hw' h => h w' hw') _ _ _ _ ⟨⟨w.drew, (Below.refl _ w).drew⟩, rfl⟩ ?_)
  have := wpAnyQ_lex (C := fun w' => ∃ p : BelowOf w, w' = p.w) (md := .any) hB.1 l 0 (Array.replicate l.toArray.size false) a (by simp) (by simpa using hB.2) h
  simpa using this
theorem calls_below_of {P : Program} {f : FuncId} {args : Array Value} {W : World} (p : BelowOf W) {v : Value}
    (h : Calls P f args p.w fun e w' => e = .returned v ∧ Below p.w.heap.size p.w w') : Calls P f args p.w fun e w'' => e = .returned v ∧ ∃ p' : BelowOf W, w'' = p'.w :=
  h.mono fun _ w' ⟨he, hb⟩ => ⟨he, ⟨w', p.h.trans (hb.mono p.h.size)⟩, rfl⟩
theorem calls_below_same {P : Program} {f : FuncId} {args : Array Value} {W : World} (p : BelowOf W) {v : Value}
    (h : Calls P f args p.w fun e w' => e = .returned v ∧ p.w = w') : Calls P f args p.w fun e w'' => e = .returned v ∧ ∃ p' : BelowOf W, w'' = p'.w :=
  h.mono fun _ w' ⟨he, hb⟩ => ⟨he, p, hb.symm⟩
end Lum
namespace Lum
open Go Go.RowKit Go.Shelf
open Go.Lib (decDigits itoa)
/-- What is still to be walked. -/
structure WQ (P : Program) (ops : Array Oper) (C : World → Prop) (Q : Act → Prop) (l : List Oper) (a : Act) : Prop where
  out : wpQuiet P ops C Q l a
theorem WQ.nil {P : Program} {ops : Array Oper} {C : World → Prop} {Q : Act → Prop} {a : Act} (h : Q a) : WQ P ops C Q [] a := ⟨wpQuiet_nil h⟩
theorem WQ.step {P : Program} {ops : Array Oper} {C : World → Prop} {Q : Act → Prop} {a : Act} {o : Oper} {rest : List Oper}
    (h : ∀ K : Act → Prop, Hid (∀ a, WQ P ops C Q rest a → K a) → if Region.wanted o (yielded ops a.tmps) then o.quiet P a C K else K (a.put o.dst undef)) : WQ P ops C Q (o :: rest) a :=
  ⟨wpQuiet_step fun K hK => h K (Lib.hid fun a h => hK a h.out)⟩
theorem wp_region_WQ {P : Program} {id : Nat} {Q : Exit → Act → World → Prop} {a : Act} {w : World} {l : List Oper} (hm : P.follows .mixedOrders = true) (hB : Region.lexB .any l.toArray = true)
    (h : WQ P l.toArray (fun w' => ∃ p : BelowOf w, w' = p.w) (fun a' => ∀ w', (∃ p : BelowOf w, w' = p.w) → Q .normal a' w') l a) : (Code.region id l.toArray true).wp P Q a w :=
  wp_region_quiet_below hm hB h.out
end Lum
