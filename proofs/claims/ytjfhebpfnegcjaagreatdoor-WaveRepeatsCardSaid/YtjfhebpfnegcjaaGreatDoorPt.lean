/-
  Slices of points.
-/
import Derived.Test.YtjfhebpfnegcjaaGreatDoorWd
set_option linter.unusedVariables false
set_option linter.unusedSimpArgs false
namespace Lum
open Go Go.RowKit Go.Shelf
open Go.Lib (decDigits itoa)
/-- The cells of points. -/
def ptCells (l : List (Int × Int)) : List Value := l.flatMap fun p => [.int .i64 p.1, .int .i64 p.2]
theorem ptCells_length (l : List (Int × Int)) : (ptCells l).length = l.length * 2 := by
  induction l with
  | nil => rfl
  | cons p r ih => unfold ptCells at *; rw [List.flatMap_cons, List.length_append, ih]; simp; omega
theorem ptCells_snoc (l : List (Int × Int)) (p : Int × Int) : ptCells (l ++ [p]) = ptCells l ++ [.int .i64 p.1, .int .i64 p.2] := by unfold ptCells; rw [List.flatMap_append]; simp
theorem ptCells_at (l : List (Int × Int)) : ∀ i, i < l.length → (ptCells l)[i * 2]? = some (.int .i64 (pX l i)) ∧ (ptCells l)[i * 2 + 1]? = some (.int .i64 (pY l i)) := by
  induction l with
  | nil => intro i hi; simp at hi
  | cons p r ih =>
    intro i hi
    have e : ptCells (p :: r) = .int .i64 p.1 :: .int .i64 p.2 :: ptCells r := by unfold ptCells; rw [List.flatMap_cons]; rfl
    rw [e]
    cases i with
    | zero => exact ⟨by simp [pX], by simp [pY]⟩
    | succ k =>
      obtain ⟨h1, h2⟩ := ih k (by simpa using hi)
      rw [show (k + 1) * 2 = k * 2 + 2 by omega]
      exact ⟨by simpa [pX] using h1, by simpa [pY] using h2⟩
/-- The call's own slice of the points l. -/
def OwnP (base e : Nat) (W : World) (p : Option Addr) (c : Nat) (l : List (Int × Int)) : Prop := W.ownsRow base e 2 (.slice p l.length c) l.length (ptCells l)
theorem OwnP.nil (base e : Nat) (W : World) : OwnP base e W none 0 [] := World.ownsRow_nil W base e 2
theorem OwnP.keep {base e : Nat} {W W' : World} {p : Option Addr} {c : Nat} {l : List (Int × Int)} (h : OwnP base e W p c l) (hb : Below W.heap.size W W') : OwnP base e W' p c l := by
  obtain ⟨h1, h2⟩ := h
  refine ⟨h1, ?_⟩
  rcases h2 with h2 | ⟨g, cap, cur, hv, hg, hh, r⟩
  · exact .inl h2
  · exact .inr ⟨g, cap, cur, hv, hg, by rw [hb.block g (Array.getElem?_eq_some_iff.1 hh).1]; exact hh, r⟩
theorem OwnP.lt {base e : Nat} {W : World} {p : Option Addr} {c : Nat} {l : List (Int × Int)} (h : OwnP base e W p c l) : ∀ a, p = some a → base ≤ a.block ∧ a.block < W.heap.size := by
  intro a ha
  subst ha
  exact World.ownsRow.lt h a.block rfl
theorem OwnP.pts {base e : Nat} {W : World} {p : Option Addr} {c : Nat} {l : List (Int × Int)} (h : OwnP base e W p c l) : PtsAt W (.slice p l.length c) l := by
  refine ⟨p, c, rfl, fun hn => ?_⟩
  have hc := fun g (hg : Value.ownBlock (.slice p l.length c) = some g) => World.ownsRow.cells h hg
  have hl := World.ownsRow.lt h
  rcases h.2 with ⟨h1, h2⟩ | ⟨g, cap, cur, hv, hg, hh, h5, h6, _⟩
  · exact absurd (List.length_eq_zero_iff.1 h2) hn
  · injection hv with hv1 hv2 hv3
    subst hv1 hv3
    refine ⟨g, 0, rfl, (hl g rfl).2, fun i hi => ?_⟩
    obtain ⟨e1, e2⟩ := ptCells_at l i hi
    have k1 := hc g rfl (i * 2) _ e1
    have k2 := hc g rfl (i * 2 + 1) _ e2
    rw [addr_add] at k1 k2
    rw [Nat.zero_add]
    rw [Nat.zero_add] at k1 k2
    exact ⟨k1, k2⟩
/-- append(s, p), one point. -/
theorem wpList_appP {P : Program} {ops : Array Oper} {rest : List Oper} {o : Oper} {a : Act} {Q : Exit → Act → World → Prop} (hgd : o.guard = none) (s x : Operand) (t : TypeId)
    (ho : o.op = .call { callee := .builtin .append, args := #[s, x], argTypes := #[t, t] })
    (base : Nat) (e : TypeId) (i : TypeInfo) (z : Value) (bytes : Nat) (ht : P.underlying t = some (.slice e)) (hi : P.info? e = some i) (hz : i.zero = some z)
    (hsize : i.size = 2) (hby : i.bytes = bytes) (hzs : z.cells.size = 2) (hbs : bytes ≤ 32)
    (p : Option Addr) (c : Nat) (l : List (Int × Int)) (W : World) (y : Int × Int) (hs : a.eval s = .slice p l.length c) (hown : OwnP base e W p c l)
    (hx : a.eval x = .slice (some ⟨W.heap.size, 0, none⟩) 1 1)
    (hn : l.length < 1000000000) (hbase : base ≤ W.heap.size)
    (h : ∀ p' c' w', OwnP base e w' p' c' (l ++ [y]) → Below base W w' → wpList P ops Q rest (a.put o.dst (.slice p' (l.length + 1) c')) w') :
    wpList P ops Q (o :: rest) a (W.alloc (.cells #[.int .i64 y.1, .int .i64 y.2] e)) := by
  refine wpList_append_own _ hgd s x t ho base e i z 2 bytes ht hi hz hsize hby hzs (by decide) _ _ _ hs (World.ownsRow.alloc hown _) ⟨W.heap.size, 0, none⟩ 1 1 [.int .i64 y.1, .int .i64 y.2] hx rfl
    (fun j u hu => by rw [addr_add, Nat.zero_add, World.cell?_alloc_new]; simpa using hu) (by simp [Value.oneCell']) (by unfold maxLen; omega) ?_ (by rw [World.size_alloc]; omega) ?_
  · have : (l.length + 1) * bytes ≤ 1000000001 * 32 := Nat.mul_le_mul (by omega) hbs
    omega
  · intro v' w' hown' hgrow _
    obtain ⟨p', c', rfl⟩ : ∃ p' c', v' = .slice p' (l.length + 1) c' := by
      rcases hown'.2 with ⟨rfl, h2⟩ | ⟨g, cap, cur, rfl, _⟩
      · simp at h2
      · exact ⟨_, _, rfl⟩
    refine h p' c' w' ?_ ?_
    · unfold OwnP
      rw [List.length_append, ptCells_snoc]; exact hown'
    · refine ((Below.refl base W).alloc hbase _).grown hgrow (by rw [World.size_alloc]; omega) ?_
      intro k hk
      cases p with
      | none => simp [Value.ownBlock] at hk
      | some ad => simp [Value.ownBlock] at hk; subst hk; exact (hown.lt ad rfl).1
end Lum
