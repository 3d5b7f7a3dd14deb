/-
  Waves: words.
-/
import Derived.Test.YtjfhebpfnegcjaaGreatDoorBk
set_option linter.unusedVariables false
set_option linter.unusedSimpArgs false
namespace Lum
open Go Go.RowKit Go.Shelf
open Go.Lib (decDigits itoa)
def pX (l : List (Int × Int)) (i : Nat) : Int := (l[i]?.getD (0, 0)).1
def pY (l : List (Int × Int)) (i : Nat) : Int := (l[i]?.getD (0, 0)).2
/-- The first error of the points from place i on. -/
def scanW (l : List (Int × Int)) : Nat → Nat → Int
  | 0, _ => 0
  | n + 1, i => if ¬ (-1000 ≤ pY l i ∧ pY l i ≤ 1000) then 2 else if 0 < i ∧ pX l i ≤ pX l (i - 1) then 9 else scanW l n (i + 1)
/-- What Check says of a wave. -/
def wvE (l : List (Int × Int)) : Int :=
  if l.length < 2 ∨ 16 < l.length then 14 else if pX l 0 ≠ 0 ∨ pX l (l.length - 1) ≠ 1000 then 2
  else if scanW l l.length 0 ≠ 0 then scanW l l.length 0 else if pY l 0 ≠ pY l (l.length - 1) then 3 else 0
/-- The slice v reads as the points l. -/
def PtsAt (W : World) (v : Value) (l : List (Int × Int)) : Prop := ∃ p c, v = .slice p l.length c ∧ (l ≠ [] → ∃ b o, p = Option.some ⟨b, o, none⟩ ∧ b < W.heap.size ∧
  ∀ i, i < l.length → W.cell? ⟨b, o + i * 2, none⟩ = some (.int .i64 (pX l i)) ∧ W.cell? ⟨b, o + i * 2 + 1, none⟩ = some (.int .i64 (pY l i)))
theorem PtsAt.below {W W' : World} {v : Value} {l : List (Int × Int)} (h : PtsAt W v l) (hb : Below W.heap.size W W') : PtsAt W' v l := by
  obtain ⟨p, c, e, h⟩ := h
  refine ⟨p, c, e, fun hn => ?_⟩
  obtain ⟨b, o, e2, hlt, hc⟩ := h hn
  exact ⟨b, o, e2, Nat.lt_of_lt_of_le hlt hb.size, fun i hi => ⟨(hb.cell (p := ⟨b, o + i * 2, none⟩) hlt).trans (hc i hi).1, (hb.cell (p := ⟨b, o + i * 2 + 1, none⟩) hlt).trans (hc i hi).2⟩⟩
end Lum
