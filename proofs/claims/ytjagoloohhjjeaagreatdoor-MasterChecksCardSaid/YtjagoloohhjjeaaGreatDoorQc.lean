/-
  A quiet region walked through a structure, into which whnf does not look.
-/
import Derived.Test.YtjagoloohhjjeaaGreatDoorQb
import Derived.Test.YtjagoloohhjjeaaGreatDoorWa
set_option linter.unusedVariables false
set_option linter.unusedSimpArgs false
namespace Lum
open Go Go.RowKit Go.Shelf
open Go.Lib (decDigits itoa)
/-- What is still to be walked. -/
structure WQ (P : Program) (ops : Array Oper) (C : World → Prop) (Q : Act → Prop) (l : List Oper) (a : Act) : Prop where
  out : wpQuiet P ops C Q l a
theorem WQ.nil {P : Program} {ops : Array Oper} {C : World → Prop} {Q : Act → Prop} {a : Act} (h : Q a) : WQ P ops C Q [] a := ⟨wpQuiet_nil h⟩
theorem WQ.step {P : Program} {ops : Array Oper} {C : World → Prop} {Q : Act → Prop} {a : Act} {o : Oper} {rest : List Oper}
    (h : ∀ K : Act → Prop, Hid (∀ a, WQ P ops C Q rest a → K a) → if Region.wanted o (yielded ops a.tmps) then o.quiet P a C K else K (a.put o.dst undef)) : WQ P ops C Q (o :: rest) a :=
  ⟨wpQuiet_step fun K hK => h K (Lib.hid fun a h => hK a h.out)⟩
theorem wp_region_WQ {P : Program} {id : Nat} {Q : Exit → Act → World → Prop} {a : Act} {w : World} {l : List Oper} (hm : P.follows .mixedOrders = true) (hB : Region.lexB .any l.toArray = true)
    (h : WQ P l.toArray (fun w' => ∃ p : BelowOf w, w' = p.w) (fun a' => ∀ w', (∃ p : BelowOf w, w' = p.w) → Q .normal a' w') l a) : (Code.region id l.toArray true).wp P Q a w :=
  wp_region_quiet_below hm hB h.out
end Lum
