/- A part of the proof of EffectAdds: contracts of functions, and plain facts. -/
import Derived.Deep.QuietTactic
import Derived.Test.YtbeojahilbglcaaGreatDoorQdInR
import Derived.Test.YtbeojahilbglcaaGreatDoorQdWa
set_option linter.unusedVariables false
set_option linter.unusedSimpArgs false
namespace Lum
open Go Go.RowKit
structure BelowOf (W : World) where
  w:World
  h:Below W.heap.size W w
instance (W:World):Inhabited (BelowOf W):=⟨⟨W,Below.refl _ _⟩⟩
theorem BelowOf.cell {W:World} {a:Addr} {v:Value} (hb:a.block < W.heap.size) (h:W.cell? a = some v) (p:BelowOf W):p.w.cell? a = some v:=(p.h.cell hb).trans h
theorem wp_region_quiet_below {P : Program} {id : Nat} {Q : Exit → Act → World → Prop} {a : Act} {w : World} {l : List Oper} (hm : P.follows .mixedOrders = true) (hB : Region.lexB .any l.toArray = true)
    (h:wpQuiet P l.toArray (fun w' => ∃ p:BelowOf w,w' = p.w) (fun a' => ∀ w',(∃ p:BelowOf w,w' = p.w) → Q .normal a' w') l a):(Code.region id l.toArray true).wp P Q a w :=
  wp_region_quiet (C:=fun w' => ∃ p:BelowOf w,w' = p.w) hm hB ⟨⟨w.drew,(Below.refl _ w).drew⟩,rfl⟩ (by simpa using h)
def stripO (o:Oper):Oper:={ o with after:=#[] }
def asB : Option Value → Option Bool
  | some (.bool b) => some b
  | _ => none
def wpQY (P : Program) (Y : Array Value → Nat → Option Bool) (C : World → Prop) (Q : Act → Prop) : List Oper → Act → Prop
  | [],a => Q a
  | o :: rest,a => if Region.wanted o (Y a.tmps) then o.quiet P a C (wpQY P Y C Q rest) else wpQY P Y C Q rest (a.put o.dst undef)
theorem calls_below_of {P : Program} {f : FuncId} {args : Array Value} {W : World} (p : BelowOf W) {v : Value}
    (h:Calls P f args p.w fun e w' => e = .returned v ∧ Below p.w.heap.size p.w w'):Calls P f args p.w fun e w'' => e = .returned v ∧ ∃ p':BelowOf W,w'' = p'.w :=
  h.mono fun _ w' ⟨he,hb⟩ => ⟨he,⟨w',p.h.trans (hb.mono p.h.size)⟩,rfl⟩
end Lum
namespace Lum
open Go Go.RowKit Go.Shelf
open Go.Lib (decDigits itoa)
structure WQ (P : Program) (ops : Array Oper) (C : World → Prop) (Q : Act → Prop) (l : List Oper) (a : Act) : Prop where
  out:wpQuiet P ops C Q l a
theorem WQ.nil {P:Program} {ops:Array Oper} {C:World → Prop} {Q:Act → Prop} {a:Act} (h:Q a):WQ P ops C Q [] a:=⟨wpQuiet_nil h⟩
theorem WQ.step {P : Program} {ops : Array Oper} {C : World → Prop} {Q : Act → Prop} {a : Act} {o : Oper} {rest : List Oper}
    (h:∀ K:Act → Prop,Hid (∀ a,WQ P ops C Q rest a → K a) → if Region.wanted o (yielded ops a.tmps) then o.quiet P a C K else K (a.put o.dst undef)):WQ P ops C Q (o :: rest) a :=
  ⟨wpQuiet_step fun K hK => h K (Lib.hid fun a h => hK a h.out)⟩
theorem wp_region_WQ {P : Program} {id : Nat} {Q : Exit → Act → World → Prop} {a : Act} {w : World} {l : List Oper} (hm : P.follows .mixedOrders = true) (hB : Region.lexB .any l.toArray = true)
    (h:WQ P l.toArray (fun w' => ∃ p:BelowOf w,w' = p.w) (fun a' => ∀ w',(∃ p:BelowOf w,w' = p.w) → Q .normal a' w') l a):(Code.region id l.toArray true).wp P Q a w :=
  wp_region_quiet_below hm hB h.out
end Lum
