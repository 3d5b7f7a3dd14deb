/-
  Slices from which elements are taken out, plain; clear.
-/
import Derived.Test.YtkjelfmgnkkijaaGreatDoorQfOi
import Derived.Test.YtkjelfmgnkkijaaGreatDoorQfSp
set_option linter.unusedVariables false
set_option linter.unusedSimpArgs false
namespace Lum
open Go Go.RowKit Go.Shelf
open Go.Lib (decDigits itoa)
theorem OwnR.cut {β : Type} {enc : β → List Value} {k base : Nat} {e : TypeId} {W : World} {g c : Nat} {cur : Array Value} {K R : List β} {cs : List Value} (hk : ∀ x, (enc x).length = k) (hb : base ≤ g) (hc : (K ++ R).length ≤ c) (hm : c ≤ maxLen) (hs : cur.size = c * k) (ht : cur.toList.take ((K ++ R).length * k) = (K ++ R).flatMap enc) (hcs : cs.length = R.length * k)
    (h : Blk W g e (rowC cur (K.length * k) cs)) : OwnR enc k base e W (some ⟨g, 0, none⟩) c K := by
  have hl : K.length * k + R.length * k ≤ cur.size := by rw [hs, ← Nat.add_mul, ← List.length_append]; exact Nat.mul_le_mul_right _ hc
  have e1 : (K.flatMap enc).length = K.length * k := flat_len hk K
  refine OwnR.of_blk hk h hb (by rw [List.length_append] at hc; omega) hm (by rw [rowC_size (by rw [hcs]; exact hl)]; exact hs) ?_
  have e2 : cur.toList.take (K.length * k) = K.flatMap enc := by
    have := congrArg (List.take (K.length * k)) ht
    rw [List.take_take, Nat.min_eq_left (by rw [List.length_append, Nat.add_mul]; omega), List.flatMap_append, List.take_left' e1] at this
    exact this
  have e4 : K.length * k ≤ (cur.toList.take (K.length * k)).length := by rw [List.length_take, Array.length_toList (xs := cur)]; omega
  unfold rowC
  rw [List.toList_toArray, List.append_assoc, List.take_append_of_le_length e4, List.take_take, Nat.min_self, e2]
/-- Cells stored one behind the other. -/
def storeAll (w : World) (g o : Nat) : List Value → World
  | [] => w
  | v :: r => storeAll (w.setCell ⟨g, o, none⟩ v) g (o + 1) r
def setAll (l : List Value) (o : Nat) : List Value → List Value
  | [] => l
  | v :: r => setAll (l.set o v) (o + 1) r
/-- Where the elements of a slice lie. -/
def RowX {β : Type} (enc : β → List Value) (k : Nat) (W : World) (pp : Option Addr) (l : List β) : Prop :=
  l ≠ [] → ∃ b o, pp = some ⟨b, o, none⟩ ∧ b < W.heap.size ∧ ∀ (i : Nat) (hi : i < l.length) (j : Nat) (u : Value), (enc (l[i]'hi))[j]? = some u → W.cell? ⟨b, o + i * k + j, none⟩ = some u
theorem RowX.kept {β : Type} {enc : β → List Value} {k : Nat} {W W' : World} {pp : Option Addr} {l : List β} (h : RowX enc k W pp l) (hb : Below W.heap.size W W') : RowX enc k W' pp l := fun hn => by
  obtain ⟨b, o, h1, h2, h3⟩ := h hn
  exact ⟨b, o, h1, Nat.lt_of_lt_of_le h2 hb.size, fun i hi j u hu => (hb.cell (p := ⟨b, o + i * k + j, none⟩) h2).trans (h3 i hi j u hu)⟩
theorem OwnR.row {β : Type} {enc : β → List Value} {k base : Nat} {e : TypeId} {W : World} {p : Option Addr} {c : Nat} {l : List β} (h : OwnR enc k base e W p c l) (hk : ∀ x, (enc x).length = k) : RowX enc k W p l := fun hn => by
  obtain ⟨b, h1, h2, h3⟩ := h.at_ hk hn
  exact ⟨b, 0, h1, h2, h3⟩
/-- What is kept of the first j elements. -/
def kepL {β : Type} (p : β → Bool) (l : List β) (j : Nat) : List β := (l.take j).filter fun x => !p x
end Lum
