/-
  Slices from which elements are taken out, plain; clear.
-/
import Derived.Test.YtkjelfmgnkkijaaGreatDoorOi
import Derived.Test.YtkjelfmgnkkijaaGreatDoorSp
set_option linter.unusedVariables false
set_option linter.unusedSimpArgs false
namespace Lum
open Go Go.RowKit Go.Shelf
open Go.Lib (decDigits itoa)
theorem kept_set {α : Type} (K l : List α) (x : α) (h : K.length < l.length) : (K ++ l.drop K.length).set K.length x = (K ++ [x]) ++ l.drop (K.length + 1) := by
  rw [List.set_append_right _ _ (Nat.le_refl _), Nat.sub_self, List.drop_eq_getElem_cons h, List.set_cons_zero, List.append_assoc, List.singleton_append]
theorem kept_get {α : Type} {K l : List α} {j : Nat} (h : K.length ≤ j) : (K ++ l.drop K.length)[j]? = l[j]? := by
  rw [List.getElem?_append_right h, List.getElem?_drop]; congr 1; omega
theorem kept_len {α : Type} {K l : List α} (h : K.length ≤ l.length) : (K ++ l.drop K.length).length = l.length := by rw [List.length_append, List.length_drop]; omega
theorem filt_take {α : Type} (p : α → Bool) {l : List α} {j : Nat} (h : j < l.length) : (l.take (j + 1)).filter p = (l.take j).filter p ++ (if p (l[j]'h) then [l[j]'h] else []) := by
  rw [List.take_succ_eq_append_getElem h, List.filter_append]; congr 1; by_cases g : p (l[j]'h) <;> simp [g]
theorem filt_yes {α : Type} {p : α → Bool} {l : List α} {j : Nat} (h : j < l.length) (g : p (l[j]'h) = true) : (l.take (j + 1)).filter p = (l.take j).filter p ++ [l[j]'h] := by rw [filt_take p h, if_pos g]
theorem filt_not {α : Type} {p : α → Bool} {l : List α} {j : Nat} (h : j < l.length) (g : p (l[j]'h) = false) : (l.take (j + 1)).filter p = (l.take j).filter p := by rw [filt_take p h, if_neg (by rw [g]; decide), List.append_nil]
theorem filt_le {α : Type} (p : α → Bool) (l : List α) (j : Nat) : ((l.take j).filter p).length ≤ j := Nat.le_trans (List.length_filter_le _ _) (by rw [List.length_take]; omega)
theorem filt_all {α : Type} {p : α → Bool} {l : List α} {j : Nat} (h : ∀ i (hi : i < l.length), i < j → p (l[i]'hi) = true) : (l.take j).filter p = l.take j :=
  List.filter_eq_self.2 fun y hy => by
    obtain ⟨i, hi, e⟩ := List.getElem_of_mem hy
    rw [List.length_take] at hi
    rw [List.getElem_take] at e
    rw [← e]; exact h i (by omega) (by omega)
theorem clearK {P : Program} (w : World) (t elem : TypeId) (z : Value) (k g o n c : Nat) (cur : Array Value) (hu : P.underlying t = some (.slice elem)) (hz : ∀ w, (zeroValue elem).run P w = .ok z w) (hzs : z.cells.size = k) (h1 : ∀ v ∈ z.cells, v.oneCell' = true)
    (hg : Blk w g elem cur) (hn : 0 < n) (hfit : o + n * k ≤ cur.size) :
    ∃ (w' : World) (cs : List Value), (∀ ty, (Builtin.clear_ #[t] ty #[.slice (some ⟨g, o, none⟩) n c]).run P w = .ok (.tuple #[]) w') ∧ cs.length = n * k ∧ Blk w' g elem (rowC cur o cs) ∧ (∀ B, B ≤ g → Below B w w') := by
  have hl : (Builtin.zeroCells z.cells n).toList.length = n * k := by rw [Array.length_toList, size_zeroCells, hzs]
  have ho : ∀ v ∈ (Builtin.zeroCells z.cells n).toList, v.oneCell' = true := by
    intro v hv
    rw [Array.mem_toList_iff] at hv
    unfold Builtin.zeroCells at hv
    rw [Array.mem_map] at hv
    obtain ⟨i, hi, rfl⟩ := hv
    rw [Array.mem_range] at hi
    have hk : 0 < z.cells.size := by
      rcases Nat.eq_zero_or_pos z.cells.size with h | h
      · rw [h] at hi; simp at hi
      · exact h
    have hm : i % z.cells.size < z.cells.size := Nat.mod_lt _ hk
    apply h1
    rw [getElem!_pos z.cells (i % z.cells.size) hm]
    exact Array.getElem_mem _
  have hst := run_storeCells_at P g o elem (Builtin.zeroCells z.cells n).toList 0 cur w hg (by rw [hl]; simpa using hfit) ho
  refine ⟨_, (Builtin.zeroCells z.cells n).toList, fun ty => ?_, hl, setRow_heap w g cur _ elem _ hg, fun B hB => below_setRow (Below.refl B w) hB _⟩
  obtain ⟨m, rfl⟩ : ∃ m, n = m + 1 := ⟨n - 1, by omega⟩
  simp only [Nat.add_zero] at hst
  simp [Builtin.clear_, run_underlying hu, hz, hst, rowC]
theorem OwnR.cut {β : Type} {enc : β → List Value} {k base : Nat} {e : TypeId} {W : World} {g c : Nat} {cur : Array Value} {K R : List β} {cs : List Value} (hk : ∀ x, (enc x).length = k) (hb : base ≤ g) (hc : (K ++ R).length ≤ c) (hm : c ≤ maxLen) (hs : cur.size = c * k) (ht : cur.toList.take ((K ++ R).length * k) = (K ++ R).flatMap enc) (hcs : cs.length = R.length * k)
    (h : Blk W g e (rowC cur (K.length * k) cs)) : OwnR enc k base e W (some ⟨g, 0, none⟩) c K := by
  have hl : K.length * k + R.length * k ≤ cur.size := by rw [hs, ← Nat.add_mul, ← List.length_append]; exact Nat.mul_le_mul_right _ hc
  have e1 : (K.flatMap enc).length = K.length * k := flat_len hk K
  refine OwnR.of_blk hk h hb (by rw [List.length_append] at hc; omega) hm (by rw [rowC_size (by rw [hcs]; exact hl)]; exact hs) ?_
  have e2 : cur.toList.take (K.length * k) = K.flatMap enc := by
    have := congrArg (List.take (K.length * k)) ht
    rw [List.take_take, Nat.min_eq_left (by rw [List.length_append, Nat.add_mul]; omega), List.flatMap_append, List.take_left' e1] at this
    exact this
  have e4 : K.length * k ≤ (cur.toList.take (K.length * k)).length := by rw [List.length_take, Array.length_toList (xs := cur)]; omega
  unfold rowC
  rw [List.toList_toArray, List.append_assoc, List.take_append_of_le_length e4, List.take_take, Nat.min_self, e2]
/-- Cells stored one behind the other. -/
def storeAll (w : World) (g o : Nat) : List Value → World
  | [] => w
  | v :: r => storeAll (w.setCell ⟨g, o, none⟩ v) g (o + 1) r
def setAll (l : List Value) (o : Nat) : List Value → List Value
  | [] => l
  | v :: r => setAll (l.set o v) (o + 1) r
theorem setAll_len (cs : List Value) : ∀ (l : List Value) (o : Nat), (setAll l o cs).length = l.length := by
  induction cs with
  | nil => intro l o; rfl
  | cons v r ih => intro l o; rw [setAll, ih, List.length_set]
theorem setAll_mid (cs : List Value) : ∀ (A B C : List Value), B.length = cs.length → setAll (A ++ (B ++ C)) A.length cs = A ++ (cs ++ C) := by
  induction cs with
  | nil => intro A B C h; obtain rfl := List.length_eq_zero_iff.1 h; rfl
  | cons v r ih =>
    intro A B C h
    obtain ⟨b, B, rfl⟩ : ∃ b B2, B = b :: B2 := by cases B with | nil => simp at h | cons b B => exact ⟨b, B, rfl⟩
    rw [setAll, List.set_append_right _ _ (Nat.le_refl _), Nat.sub_self, List.cons_append, List.set_cons_zero]
    have := ih (A ++ [v]) B C (by simpa using h)
    rw [List.length_append, List.append_assoc, List.append_assoc] at this
    exact this
theorem blk_storeAll {g : Nat} {t : TypeId} (cs : List Value) : ∀ (w : World) (o : Nat) (cur : Array Value), Blk w g t cur → Blk (storeAll w g o cs) g t (setAll cur.toList o cs).toArray := by
  induction cs with
  | nil => intro w o cur h; rw [storeAll, setAll]; exact h
  | cons v r ih =>
    intro w o cur h
    have h2 := ih _ (o + 1) _ (h.set_ o v)
    rw [storeAll, setAll]
    rw [Array.toList_setIfInBounds] at h2
    exact h2
theorem below_storeAll {g B : Nat} {a : World} (hB : B ≤ g) (cs : List Value) : ∀ (w : World) (o : Nat), Below B a w → Below B a (storeAll w g o cs) := by
  induction cs with
  | nil => intro w o h; exact h
  | cons v r ih => intro w o h; exact ih _ _ (h.setCell hB _)
theorem storeAll_far {g : Nat} (cs : List Value) : ∀ (w : World) (o : Nat) (j : Nat), j ≠ g → (storeAll w g o cs).heap[j]? = w.heap[j]? := by
  induction cs with
  | nil => intro w o j h; rfl
  | cons v r ih => intro w o j h; rw [storeAll, ih _ _ _ h]; exact Below.heap_setCell _ _ _ _ h
theorem flat_set {β : Type} {enc : β → List Value} {k : Nat} (hk : ∀ x, (enc x).length = k) {l : List β} {i : Nat} (hi : i < l.length) (x : β) (T : List Value) : setAll (l.flatMap enc ++ T) (i * k) (enc x) = (l.set i x).flatMap enc ++ T := by
  have e : l = l.take i ++ (l[i]'hi :: l.drop (i + 1)) := by rw [← List.drop_eq_getElem_cons hi, List.take_append_drop]
  have e1 : ((l.take i).flatMap enc).length = i * k := by rw [flat_len hk, List.length_take, Nat.min_eq_left (by omega)]
  rw [List.set_eq_take_append_cons_drop, if_pos hi]
  conv => lhs; rw [e]
  rw [List.flatMap_append, List.flatMap_cons, List.flatMap_append, List.flatMap_cons, List.append_assoc, List.append_assoc, ← e1, setAll_mid _ _ _ _ (by rw [hk, hk]), List.append_assoc, List.append_assoc]
/-- An element of a call's own slice stored anew. -/
theorem OwnR.setk {β : Type} {enc : β → List Value} {k base : Nat} {e : TypeId} {W : World} {g c : Nat} {l : List β} (hk : ∀ x, (enc x).length = k) (h : OwnR enc k base e W (some ⟨g, 0, none⟩) c l) {i : Nat} (hi : i < l.length) (x : β) : OwnR enc k base e (storeAll W g (i * k) (enc x)) (some ⟨g, 0, none⟩) c (l.set i x) := by
  obtain ⟨g2, cur, hp, hg, hb, h1, h2, h3, h4⟩ := h.to_blk (fun e => by subst e; exact absurd hi (Nat.not_lt_zero _))
  obtain rfl : g = g2 := by have := Option.some.inj hp; injection this
  have hc : cur.toList = l.flatMap enc ++ cur.toList.drop (l.length * k) := by rw [← h4, List.take_append_drop]
  have hl : (l.flatMap enc).length = l.length * k := flat_len hk l
  refine OwnR.of_blk hk (blk_storeAll (enc x) _ (i * k) _ hb) hg (by rw [List.length_set]; exact h1) h2 (by rw [List.size_toArray, setAll_len, Array.length_toList]; exact h3) ?_
  rw [List.toList_toArray, hc, flat_set hk hi, List.length_set]
  have : ((l.set i x).flatMap enc).length = l.length * k := by rw [flat_len hk, List.length_set]
  rw [← this, List.take_append_of_le_length (Nat.le_refl _)]
  exact List.take_of_length_le (Nat.le_refl _)
theorem OwnR.cellsAt {β : Type} {enc : β → List Value} {k base : Nat} {e : TypeId} {W : World} {g c : Nat} {l : List β} (hk : ∀ x, (enc x).length = k) (h : OwnR enc k base e W (some ⟨g, 0, none⟩) c l) {i : Nat} {x : β} (hx : l[i]? = some x) : ∀ j u, (enc x)[j]? = some u → W.cell? ⟨g, i * k + j, none⟩ = some u := by
  obtain ⟨hi, e2⟩ := List.getElem?_eq_some_iff.1 hx
  obtain ⟨b, hp, -, hc⟩ := h.at_ hk (fun e => by subst e; exact absurd hi (Nat.not_lt_zero _))
  obtain rfl : g = b := by have := Option.some.inj hp; injection this
  intro j u hu
  have := hc i hi j u (by rw [e2]; exact hu)
  rwa [Nat.zero_add] at this
theorem OwnR.frozenAt {β : Type} {enc : β → List Value} {k base : Nat} {e : TypeId} {W : World} {g c : Nat} {l : List β} (h : OwnR enc k base e W (some ⟨g, 0, none⟩) c l) (hn : l ≠ []) (i : Nat) : W.frozen? ⟨g, i, none⟩ = false := by
  obtain ⟨g2, cur, hp, -, hb, -⟩ := h.to_blk hn
  obtain rfl : g = g2 := by have := Option.some.inj hp; injection this
  exact hb.frozen i
/-- Where the elements of a slice lie. -/
def RowX {β : Type} (enc : β → List Value) (k : Nat) (W : World) (pp : Option Addr) (l : List β) : Prop :=
  l ≠ [] → ∃ b o, pp = some ⟨b, o, none⟩ ∧ b < W.heap.size ∧ ∀ (i : Nat) (hi : i < l.length) (j : Nat) (u : Value), (enc (l[i]'hi))[j]? = some u → W.cell? ⟨b, o + i * k + j, none⟩ = some u
theorem RowX.kept {β : Type} {enc : β → List Value} {k : Nat} {W W' : World} {pp : Option Addr} {l : List β} (h : RowX enc k W pp l) (hb : Below W.heap.size W W') : RowX enc k W' pp l := fun hn => by
  obtain ⟨b, o, h1, h2, h3⟩ := h hn
  exact ⟨b, o, h1, Nat.lt_of_lt_of_le h2 hb.size, fun i hi j u hu => (hb.cell (p := ⟨b, o + i * k + j, none⟩) h2).trans (h3 i hi j u hu)⟩
theorem OwnR.row {β : Type} {enc : β → List Value} {k base : Nat} {e : TypeId} {W : World} {p : Option Addr} {c : Nat} {l : List β} (h : OwnR enc k base e W p c l) (hk : ∀ x, (enc x).length = k) : RowX enc k W p l := fun hn => by
  obtain ⟨b, h1, h2, h3⟩ := h.at_ hk hn
  exact ⟨b, 0, h1, h2, h3⟩
theorem first_ix {β : Type} (p : β → Bool) : ∀ (l : List β), (∀ i (hi : i < l.length), p (l[i]'hi) = false) ∨ ∃ i, ∃ hi : i < l.length, p (l[i]'hi) = true ∧ ∀ j (hj : j < i), p (l[j]'(Nat.lt_trans hj hi)) = false := by
  intro l
  induction l with
  | nil => exact .inl fun i hi => absurd hi (Nat.not_lt_zero _)
  | cons x r ih =>
    cases hx : p x with
    | true => exact .inr ⟨0, by simp, hx, fun j hj => absurd hj (Nat.not_lt_zero _)⟩
    | false =>
      rcases ih with h | ⟨i, hi, h1, h2⟩
      · refine .inl fun i hi => ?_
        cases i with
        | zero => exact hx
        | succ i => exact h i (by simpa using hi)
      · refine .inr ⟨i + 1, by simpa using hi, by simpa using h1, fun j hj => ?_⟩
        cases j with
        | zero => exact hx
        | succ j => exact h2 j (by omega)
/-- What is kept of the first j elements. -/
def kepL {β : Type} (p : β → Bool) (l : List β) (j : Nat) : List β := (l.take j).filter fun x => !p x
theorem kep_le {β : Type} (p : β → Bool) (l : List β) (j : Nat) : (kepL p l j).length ≤ j := filt_le _ l j
theorem kep_yes {β : Type} {p : β → Bool} {l : List β} {j : Nat} (h : j < l.length) (g : p (l[j]'h) = true) : kepL p l (j + 1) = kepL p l j := filt_not h (by simp [g])
theorem kep_no {β : Type} {p : β → Bool} {l : List β} {j : Nat} (h : j < l.length) (g : p (l[j]'h) = false) : kepL p l (j + 1) = kepL p l j ++ [l[j]'h] := filt_yes (p := fun x => !p x) h (by simp [g])
theorem kep_lt {β : Type} {p : β → Bool} {l : List β} {i : Nat} (hi : i < l.length) (h : p (l[i]'hi) = true) : ∀ j, i < j → j ≤ l.length → (kepL p l j).length < j := by
  intro j
  induction j with
  | zero => intro h1 _; exact absurd h1 (Nat.not_lt_zero _)
  | succ j ih =>
    intro h1 h2
    by_cases e : i = j
    · subst e
      rw [kep_yes hi h]
      have := kep_le p l i; omega
    · have h3 := ih (by omega) (by omega)
      cases g : p (l[j]'(by omega)) with
      | true => rw [kep_yes (by omega) g]; omega
      | false => rw [kep_no (by omega) g, List.length_append]; simp; omega
theorem kep_first {β : Type} {p : β → Bool} {l : List β} {i : Nat} (hi : i < l.length) (h : p (l[i]'hi) = true) (hb : ∀ j (hj : j < i), p (l[j]'(Nat.lt_trans hj hi)) = false) : kepL p l (i + 1) = l.take i := by
  unfold kepL
  rw [filt_not hi (by simp [h])]
  exact filt_all fun j hj hji => by simp [hb j hji]
theorem kep_end {β : Type} (p : β → Bool) (l : List β) : kepL p l l.length = l.filter fun x => !p x := by unfold kepL; rw [List.take_length]
theorem kep_none {β : Type} {p : β → Bool} {l : List β} (h : ∀ i (hi : i < l.length), p (l[i]'hi) = false) : (l.filter fun x => !p x) = l := List.filter_eq_self.2 fun y hy => by
  obtain ⟨i, hi, e⟩ := List.getElem_of_mem hy
  rw [← e, h i hi]; rfl
theorem wpList_clear_run {P : Program} (w : World) {ops : Array Oper} {rest : List Oper} {o : Oper} {a : Act} {Q : Exit → Act → World → Prop} (hgd : o.guard = none) (s : Operand) (t : TypeId)
    (ho : o.op = .call { callee := .builtin .clear, args := #[s], argTypes := #[t] }) (v : Value) (hs : a.eval s = v) {v' : Value} {w' : World}
    (hr : (Builtin.clear_ #[t] o.type #[v]).run P w = .ok v' w') (h : wpList P ops Q rest (a.put o.dst v') w') : wpList P ops Q (o :: rest) a w :=
  wpList_plain hgd fun K hK => by
    unfold Oper.wp execOp
    simp only [ho, resolve, invoke, builtin, Sem.run_bind, Sem.run_pure, Result.andThen_ok, List.map_toArray, List.map_cons, List.map_nil, hs, hr]
    exact hK _ _ h
end Lum
