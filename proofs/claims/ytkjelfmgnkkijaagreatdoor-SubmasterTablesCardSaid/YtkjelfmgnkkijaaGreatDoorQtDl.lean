/-
  Slices from which elements are taken out, plain; clear.
-/
import Derived.Test.YtkjelfmgnkkijaaGreatDoorOi
import Derived.Test.YtkjelfmgnkkijaaGreatDoorSp
set_option linter.unusedVariables false
set_option linter.unusedSimpArgs false
namespace Lum
open Go Go.RowKit Go.Shelf
open Go.Lib (decDigits itoa)
theorem OwnR.cut {β : Type} {enc : β → List Value} {k base : Nat} {e : TypeId} {W : World} {g c : Nat} {cur : Array Value} {K R : List β} {cs : List Value} (hk : ∀ x, (enc x).length = k) (hb : base ≤ g) (hc : (K ++ R).length ≤ c) (hm : c ≤ maxLen) (hs : cur.size = c * k) (ht : cur.toList.take ((K ++ R).length * k) = (K ++ R).flatMap enc) (hcs : cs.length = R.length * k)
    (h : Blk W g e (rowC cur (K.length * k) cs)) : OwnR enc k base e W (some ⟨g, 0, none⟩) c K := by
  have hl : K.length * k + R.length * k ≤ cur.size := by rw [hs, ← Nat.add_mul, ← List.length_append]; exact Nat.mul_le_mul_right _ hc
  have e1 : (K.flatMap enc).length = K.length * k := flat_len hk K
  refine OwnR.of_blk hk h hb (by rw [List.length_append] at hc; omega) hm (by rw [rowC_size (by rw [hcs]; exact hl)]; exact hs) ?_
  have e2 : cur.toList.take (K.length * k) = K.flatMap enc := by
    have := congrArg (List.take (K.length * k)) ht
    rw [List.take_take, Nat.min_eq_left (by rw [List.length_append, Nat.add_mul]; omega), List.flatMap_append, List.take_left' e1] at this
    exact this
  have e4 : K.length * k ≤ (cur.toList.take (K.length * k)).length := by rw [List.length_take, Array.length_toList (xs := cur)]; omega
  unfold rowC
  rw [List.toList_toArray, List.append_assoc, List.take_append_of_le_length e4, List.take_take, Nat.min_self, e2]
/-- Cells stored one behind the other. -/
def storeAll (w : World) (g o : Nat) : List Value → World
  | [] => w
  | v :: r => storeAll (w.setCell ⟨g, o, none⟩ v) g (o + 1) r
def setAll (l : List Value) (o : Nat) : List Value → List Value
  | [] => l
  | v :: r => setAll (l.set o v) (o + 1) r
theorem setAll_len (cs : List Value) : ∀ (l : List Value) (o : Nat), (setAll l o cs).length = l.length := by
  induction cs with
  | nil => intro l o; rfl
  | cons v r ih => intro l o; rw [setAll, ih, List.length_set]
theorem setAll_mid (cs : List Value) : ∀ (A B C : List Value), B.length = cs.length → setAll (A ++ (B ++ C)) A.length cs = A ++ (cs ++ C) := by
  induction cs with
  | nil => intro A B C h; obtain rfl := List.length_eq_zero_iff.1 h; rfl
  | cons v r ih =>
    intro A B C h
    obtain ⟨b, B, rfl⟩ : ∃ b B2, B = b :: B2 := by cases B with | nil => simp at h | cons b B => exact ⟨b, B, rfl⟩
    rw [setAll, List.set_append_right _ _ (Nat.le_refl _), Nat.sub_self, List.cons_append, List.set_cons_zero]
    have := ih (A ++ [v]) B C (by simpa using h)
    rw [List.length_append, List.append_assoc, List.append_assoc] at this
    exact this
theorem blk_storeAll {g : Nat} {t : TypeId} (cs : List Value) : ∀ (w : World) (o : Nat) (cur : Array Value), Blk w g t cur → Blk (storeAll w g o cs) g t (setAll cur.toList o cs).toArray := by
  induction cs with
  | nil => intro w o cur h; rw [storeAll, setAll]; exact h
  | cons v r ih =>
    intro w o cur h
    have h2 := ih _ (o + 1) _ (h.set_ o v)
    rw [storeAll, setAll]
    rw [Array.toList_setIfInBounds] at h2
    exact h2
theorem flat_set {β : Type} {enc : β → List Value} {k : Nat} (hk : ∀ x, (enc x).length = k) {l : List β} {i : Nat} (hi : i < l.length) (x : β) (T : List Value) : setAll (l.flatMap enc ++ T) (i * k) (enc x) = (l.set i x).flatMap enc ++ T := by
  have e : l = l.take i ++ (l[i]'hi :: l.drop (i + 1)) := by rw [← List.drop_eq_getElem_cons hi, List.take_append_drop]
  have e1 : ((l.take i).flatMap enc).length = i * k := by rw [flat_len hk, List.length_take, Nat.min_eq_left (by omega)]
  rw [List.set_eq_take_append_cons_drop, if_pos hi]
  conv => lhs; rw [e]
  rw [List.flatMap_append, List.flatMap_cons, List.flatMap_append, List.flatMap_cons, List.append_assoc, List.append_assoc, ← e1, setAll_mid _ _ _ _ (by rw [hk, hk]), List.append_assoc, List.append_assoc]
/-- An element of a call's own slice stored anew. -/
theorem OwnR.setk {β : Type} {enc : β → List Value} {k base : Nat} {e : TypeId} {W : World} {g c : Nat} {l : List β} (hk : ∀ x, (enc x).length = k) (h : OwnR enc k base e W (some ⟨g, 0, none⟩) c l) {i : Nat} (hi : i < l.length) (x : β) : OwnR enc k base e (storeAll W g (i * k) (enc x)) (some ⟨g, 0, none⟩) c (l.set i x) := by
  obtain ⟨g2, cur, hp, hg, hb, h1, h2, h3, h4⟩ := h.to_blk (fun e => by subst e; exact absurd hi (Nat.not_lt_zero _))
  obtain rfl : g = g2 := by have := Option.some.inj hp; injection this
  have hc : cur.toList = l.flatMap enc ++ cur.toList.drop (l.length * k) := by rw [← h4, List.take_append_drop]
  have hl : (l.flatMap enc).length = l.length * k := flat_len hk l
  refine OwnR.of_blk hk (blk_storeAll (enc x) _ (i * k) _ hb) hg (by rw [List.length_set]; exact h1) h2 (by rw [List.size_toArray, setAll_len, Array.length_toList]; exact h3) ?_
  rw [List.toList_toArray, hc, flat_set hk hi, List.length_set]
  have : ((l.set i x).flatMap enc).length = l.length * k := by rw [flat_len hk, List.length_set]
  rw [← this, List.take_append_of_le_length (Nat.le_refl _)]
  exact List.take_of_length_le (Nat.le_refl _)
theorem OwnR.cellsAt {β : Type} {enc : β → List Value} {k base : Nat} {e : TypeId} {W : World} {g c : Nat} {l : List β} (hk : ∀ x, (enc x).length = k) (h : OwnR enc k base e W (some ⟨g, 0, none⟩) c l) {i : Nat} {x : β} (hx : l[i]? = some x) : ∀ j u, (enc x)[j]? = some u → W.cell? ⟨g, i * k + j, none⟩ = some u := by
  obtain ⟨hi, e2⟩ := List.getElem?_eq_some_iff.1 hx
  obtain ⟨b, hp, -, hc⟩ := h.at_ hk (fun e => by subst e; exact absurd hi (Nat.not_lt_zero _))
  obtain rfl : g = b := by have := Option.some.inj hp; injection this
  intro j u hu
  have := hc i hi j u (by rw [e2]; exact hu)
  rwa [Nat.zero_add] at this
theorem OwnR.frozenAt {β : Type} {enc : β → List Value} {k base : Nat} {e : TypeId} {W : World} {g c : Nat} {l : List β} (h : OwnR enc k base e W (some ⟨g, 0, none⟩) c l) (hn : l ≠ []) (i : Nat) : W.frozen? ⟨g, i, none⟩ = false := by
  obtain ⟨g2, cur, hp, -, hb, -⟩ := h.to_blk hn
  obtain rfl : g = g2 := by have := Option.some.inj hp; injection this
  exact hb.frozen i
/-- Where the elements of a slice lie. -/
def RowX {β : Type} (enc : β → List Value) (k : Nat) (W : World) (pp : Option Addr) (l : List β) : Prop :=
  l ≠ [] → ∃ b o, pp = some ⟨b, o, none⟩ ∧ b < W.heap.size ∧ ∀ (i : Nat) (hi : i < l.length) (j : Nat) (u : Value), (enc (l[i]'hi))[j]? = some u → W.cell? ⟨b, o + i * k + j, none⟩ = some u
theorem RowX.kept {β : Type} {enc : β → List Value} {k : Nat} {W W' : World} {pp : Option Addr} {l : List β} (h : RowX enc k W pp l) (hb : Below W.heap.size W W') : RowX enc k W' pp l := fun hn => by
  obtain ⟨b, o, h1, h2, h3⟩ := h hn
  exact ⟨b, o, h1, Nat.lt_of_lt_of_le h2 hb.size, fun i hi j u hu => (hb.cell (p := ⟨b, o + i * k + j, none⟩) h2).trans (h3 i hi j u hu)⟩
theorem OwnR.row {β : Type} {enc : β → List Value} {k base : Nat} {e : TypeId} {W : World} {p : Option Addr} {c : Nat} {l : List β} (h : OwnR enc k base e W p c l) (hk : ∀ x, (enc x).length = k) : RowX enc k W p l := fun hn => by
  obtain ⟨b, h1, h2, h3⟩ := h.at_ hk hn
  exact ⟨b, 0, h1, h2, h3⟩
/-- What is kept of the first j elements. -/
def kepL {β : Type} (p : β → Bool) (l : List β) (j : Nat) : List β := (l.take j).filter fun x => !p x
end Lum
