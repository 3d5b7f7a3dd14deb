/-
  A call's own slice of elements of any make, and append of one to it. append to a call's own slice, other blocks kept. append to a call's own slice, other blocks kept. A block's cells stored anew.
-/
import Derived.Test.YtkjelfmgnkkijaaGreatDoorWa
import Derived.Test.YtkjelfmgnkkijaaGreatDoorWc
import Derived.Maps.AppendAt
set_option linter.unusedVariables false
set_option linter.unusedSimpArgs false
namespace Lum
open Go Go.RowKit Go.Shelf
open Go.Lib (decDigits itoa)
/-- The call's own slice of the elements l. -/
def OwnR {β : Type} (enc : β → List Value) (k base : Nat) (e : TypeId) (W : World) (p : Option Addr) (c : Nat) (l : List β) : Prop := W.ownsRow base e k (.slice p l.length c) l.length (l.flatMap enc)
section
variable {β : Type} {enc : β → List Value} {k : Nat}
theorem flat_at (hk : ∀ x, (enc x).length = k) : ∀ (l : List β) (i : Nat) (h : i < l.length) (j : Nat) (v : Value), (enc (l[i]'h))[j]? = some v → (l.flatMap enc)[i * k + j]? = some v := by
  intro l
  induction l with
  | nil => intro i h; simp at h
  | cons x r ih =>
    intro i h j v hv
    rw [List.flatMap_cons]
    cases i with
    | zero =>
      have hj := (List.getElem?_eq_some_iff.1 hv).1
      rw [Nat.zero_mul, Nat.zero_add, List.getElem?_append_left (by simpa using hj)]
      simpa using hv
    | succ i =>
      rw [List.getElem?_append_right (by rw [hk]; rw [Nat.add_one_mul]; omega), hk, show (i + 1) * k + j - k = i * k + j by rw [Nat.add_one_mul]; omega]
      exact ih i (by simpa using h) j v (by simpa using hv)
theorem OwnR.nil (base : Nat) (e : TypeId) (W : World) : OwnR enc k base e W none 0 [] := World.ownsRow_nil W base e k
theorem OwnR.keep {base : Nat} {e : TypeId} {W W' : World} {p : Option Addr} {c : Nat} {l : List β} (h : OwnR enc k base e W p c l) (hb : Below W.heap.size W W') : OwnR enc k base e W' p c l := by
  obtain ⟨h1, h2⟩ := h
  refine ⟨h1, ?_⟩
  rcases h2 with h2 | ⟨g, cap, cur, hv, hg, hh, r⟩
  · exact .inl h2
  · exact .inr ⟨g, cap, cur, hv, hg, by rw [hb.block g (Array.getElem?_eq_some_iff.1 hh).1]; exact hh, r⟩
theorem OwnR.lt {base : Nat} {e : TypeId} {W : World} {p : Option Addr} {c : Nat} {l : List β} (h : OwnR enc k base e W p c l) : ∀ a, p = some a → base ≤ a.block ∧ a.block < W.heap.size := by
  intro a ha
  subst ha
  exact World.ownsRow.lt h a.block rfl
theorem OwnR.cap {base : Nat} {e : TypeId} {W : World} {p : Option Addr} {c : Nat} {l : List β} (h : OwnR enc k base e W p c l) : l.length ≤ c := by
  rcases h.2 with ⟨h1, h2⟩ | ⟨g, cap, cur, hv, hg, hh, h5, h6, _⟩
  · rw [h2]; exact Nat.zero_le _
  · injection hv with hv1 hv2 hv3
    subst hv3; exact h5
theorem OwnR.at_ {base : Nat} {e : TypeId} {W : World} {p : Option Addr} {c : Nat} {l : List β} (h : OwnR enc k base e W p c l) (hk : ∀ x, (enc x).length = k) (hn : l ≠ []) :
    ∃ b, p = some ⟨b, 0, none⟩ ∧ b < W.heap.size ∧ ∀ (i : Nat) (hi : i < l.length) (j : Nat) (v : Value), (enc (l[i]'hi))[j]? = some v → W.cell? ⟨b, 0 + i * k + j, none⟩ = some v := by
  have hc := fun g (hg : Value.ownBlock (.slice p l.length c) = some g) => World.ownsRow.cells h hg
  have hl := World.ownsRow.lt h
  rcases h.2 with ⟨h1, h2⟩ | ⟨g, cap, cur, hv, hg, hh, h5, h6, _⟩
  · exact absurd (List.length_eq_zero_iff.1 h2) hn
  · injection hv with hv1 hv2 hv3
    subst hv1 hv3
    refine ⟨g, rfl, (hl g rfl).2, fun i hi j v hv => ?_⟩
    have k1 := hc g rfl (i * k + j) v (flat_at hk l i hi j v hv)
    rw [addr_add] at k1
    rw [Nat.zero_add] at k1 ⊢
    exact k1
/-- append(s, y), one element, which lies in the block b. -/
theorem wpList_appR {P : Program} {ops : Array Oper} {rest : List Oper} {o : Oper} {a : Act} {Q : Exit → Act → World → Prop} (hgd : o.guard = none) (s x : Operand) (t : TypeId)
    (ho : o.op = .call { callee := .builtin .append, args := #[s, x], argTypes := #[t, t] })
    (base : Nat) (e : TypeId) (i : TypeInfo) (z : Value) (bytes : Nat) (ht : P.underlying t = some (.slice e)) (hi : P.info? e = some i) (hz : i.zero = some z)
    (hsize : i.size = k) (hby : i.bytes = bytes) (hzs : z.cells.size = k) (hbs : bytes ≤ 64) (hk0 : 0 < k)
    (p : Option Addr) (c : Nat) (l : List β) (W : World) (y : β) (b : Nat) (hy : (enc y).length = k) (hcell : ∀ j u, (enc y)[j]? = some u → W.cell? ⟨b, j, none⟩ = some u) (h1 : ∀ u ∈ enc y, u.oneCell' = true)
    (hs : a.eval s = .slice p l.length c) (hown : OwnR enc k base e W p c l)
    (hx : a.eval x = .slice (some ⟨b, 0, none⟩) 1 1)
    (hn : l.length < 1000000000) (hbase : base ≤ W.heap.size)
    (h : ∀ p' c' w', OwnR enc k base e w' p' c' (l ++ [y]) → Below base W w' → wpList P ops Q rest (a.put o.dst (.slice p' (l.length + 1) c')) w') :
    wpList P ops Q (o :: rest) a W := by
  refine wpList_append_own _ hgd s x t ho base e i z k bytes ht hi hz hsize hby hzs hk0 _ _ _ hs hown ⟨b, 0, none⟩ 1 1 (enc y) hx (by rw [hy, Nat.one_mul])
    (fun j u hu => by rw [addr_add, Nat.zero_add]; exact hcell j u hu) h1 (by unfold maxLen; omega) ?_ hbase ?_
  · have : (l.length + 1) * bytes ≤ 1000000001 * 64 := Nat.mul_le_mul (by omega) hbs
    omega
  · intro v' w' hown' hgrow _
    obtain ⟨p', c', rfl⟩ : ∃ p' c', v' = .slice p' (l.length + 1) c' := by
      rcases hown'.2 with ⟨rfl, h2⟩ | ⟨g, cap, cur, rfl, _⟩
      · simp at h2
      · exact ⟨_, _, rfl⟩
    refine h p' c' w' ?_ ?_
    · unfold OwnR
      rw [List.length_append, List.flatMap_append, List.flatMap_cons, List.flatMap_nil, List.append_nil]; exact hown'
    · refine (Below.refl base W).grown hgrow hbase ?_
      intro k hk
      cases p with
      | none => simp [Value.ownBlock] at hk
      | some ad => simp [Value.ownBlock] at hk; subst hk; exact (hown.lt ad rfl).1
end
end Lum
namespace Lum
open Go Go.RowKit Go.Shelf
open Go.Lib (decDigits itoa)
/-- append(s, y), one element, which lies in the block b; other blocks stay as they are. -/
theorem wpList_appR2 {β : Type} {enc : β → List Value} {k : Nat} {P : Program} {ops : Array Oper} {rest : List Oper} {o : Oper} {a : Act} {Q : Exit → Act → World → Prop} (hgd : o.guard = none) (s x : Operand) (t : TypeId)
    (ho : o.op = .call { callee := .builtin .append, args := #[s, x], argTypes := #[t, t] })
    (base : Nat) (e : TypeId) (i : TypeInfo) (z : Value) (bytes : Nat) (ht : P.underlying t = some (.slice e)) (hi : P.info? e = some i) (hz : i.zero = some z)
    (hsize : i.size = k) (hby : i.bytes = bytes) (hzs : z.cells.size = k) (hbs : bytes ≤ 64) (hk0 : 0 < k)
    (p : Option Addr) (c n : Nat) (l : List β) (hnl : n = l.length) (W : World) (y : β) (b : Nat) (hy : (enc y).length = k) (hcell : ∀ j u, (enc y)[j]? = some u → W.cell? ⟨b, j, none⟩ = some u) (h1 : ∀ u ∈ enc y, u.oneCell' = true)
    (hs : a.eval s = .slice p n c) (hown : OwnR enc k base e W p c l)
    (hx : a.eval x = .slice (some ⟨b, 0, none⟩) 1 1)
    (hn : l.length < 1000000000) (hbase : base ≤ W.heap.size)
    (h : ∀ p' c' w', OwnR enc k base e w' p' c' (l ++ [y]) → Below base W w' → (∀ (g : Nat) (t : TypeId) (cs : Array Value), Blk W g t cs → (∀ a, p = some a → g ≠ a.block) → Blk w' g t cs ∧ ∀ a, p' = some a → g ≠ a.block) → wpList P ops Q rest (a.put o.dst (.slice p' (n + 1) c')) w') :
    wpList P ops Q (o :: rest) a W := by
  subst hnl
  refine wpList_append_own_at _ hgd s x t ho base e i z k bytes ht hi hz hsize hby hzs hk0 _ _ _ hs hown ⟨b, 0, none⟩ 1 1 (enc y) hx (by rw [hy, Nat.one_mul])
    (fun j u hu => by rw [addr_add, Nat.zero_add]; exact hcell j u hu) h1 (by unfold maxLen; omega) ?_ hbase ?_
  · have : (l.length + 1) * bytes ≤ 1000000001 * 64 := Nat.mul_le_mul (by omega) hbs
    omega
  · intro v' w' hown' hgrow _ hat
    obtain ⟨p', c', rfl⟩ : ∃ p' c', v' = .slice p' (l.length + 1) c' := by
      rcases hown'.2 with ⟨rfl, h2⟩ | ⟨g, cap, cur, rfl, _⟩
      · simp at h2
      · exact ⟨_, _, rfl⟩
    refine h p' c' w' ?_ ?_ ?_
    · unfold OwnR
      rw [List.length_append, List.flatMap_append, List.flatMap_cons, List.flatMap_nil, List.append_nil]; exact hown'
    · refine (Below.refl base W).grown hgrow hbase ?_
      intro k hk
      cases p with
      | none => simp [Value.ownBlock] at hk
      | some ad => simp [Value.ownBlock] at hk; subst hk; exact (hown.lt ad rfl).1
    · intro g tt cs hg hne
      refine ⟨hg.kept hgrow fun e2 => ?_, fun ad had => ?_⟩
      · cases p with
        | none => simp [Value.ownBlock] at e2
        | some ad => simp [Value.ownBlock] at e2; exact hne ad rfl e2
      · subst had
        rcases hat with e2 | e2
        · cases p with
          | none => simp [Value.ownBlock] at e2
          | some ad2 => simp [Value.ownBlock] at e2; rw [e2]; exact hne ad2 rfl
        · simp [Value.ownBlock] at e2
          rw [e2]
          exact Nat.ne_of_lt hg.lt
end Lum
namespace Lum
open Go Go.RowKit Go.Shelf
open Go.Lib (decDigits itoa)
/-- append(s, y), one element, which lies in the block b; other blocks stay as they are. -/
theorem wpList_appR3 {β : Type} {enc : β → List Value} {k : Nat} {P : Program} {ops : Array Oper} {rest : List Oper} {o : Oper} {a : Act} {Q : Exit → Act → World → Prop} (hgd : o.guard = none) (s x : Operand) (t : TypeId)
    (ho : o.op = .call { callee := .builtin .append, args := #[s, x], argTypes := #[t, t] })
    (base : Nat) (e : TypeId) (i : TypeInfo) (z : Value) (bytes : Nat) (ht : P.underlying t = some (.slice e)) (hi : P.info? e = some i) (hz : i.zero = some z)
    (hsize : i.size = k) (hby : i.bytes = bytes) (hzs : z.cells.size = k) (hbs : bytes ≤ 64) (hk0 : 0 < k)
    (p : Option Addr) (c n : Nat) (l : List β) (hnl : n = l.length) (W : World) (y : β) (b : Nat) (hy : (enc y).length = k) (hcell : ∀ j u, (enc y)[j]? = some u → W.cell? ⟨b, j, none⟩ = some u) (h1 : ∀ u ∈ enc y, u.oneCell' = true)
    (hs : a.eval s = .slice p n c) (hown : OwnR enc k base e W p c l)
    (hx : a.eval x = .slice (some ⟨b, 0, none⟩) 1 1)
    (hn : l.length < 1000000000) (hbase : base ≤ W.heap.size)
    (h : ∀ p' c' w', OwnR enc k base e w' p' c' (l ++ [y]) → Below base W w' → (∀ g : Nat, g < W.heap.size → (∀ a, p = some a → g ≠ a.block) → w'.heap[g]? = W.heap[g]? ∧ ∀ a, p' = some a → g ≠ a.block) → wpList P ops Q rest (a.put o.dst (.slice p' (n + 1) c')) w') :
    wpList P ops Q (o :: rest) a W := by
  subst hnl
  refine wpList_append_own_at _ hgd s x t ho base e i z k bytes ht hi hz hsize hby hzs hk0 _ _ _ hs hown ⟨b, 0, none⟩ 1 1 (enc y) hx (by rw [hy, Nat.one_mul])
    (fun j u hu => by rw [addr_add, Nat.zero_add]; exact hcell j u hu) h1 (by unfold maxLen; omega) ?_ hbase ?_
  · have : (l.length + 1) * bytes ≤ 1000000001 * 64 := Nat.mul_le_mul (by omega) hbs
    omega
  · intro v' w' hown' hgrow _ hat
    obtain ⟨p', c', rfl⟩ : ∃ p' c', v' = .slice p' (l.length + 1) c' := by
      rcases hown'.2 with ⟨rfl, h2⟩ | ⟨g, cap, cur, rfl, _⟩
      · simp at h2
      · exact ⟨_, _, rfl⟩
    refine h p' c' w' ?_ ?_ ?_
    · unfold OwnR
      rw [List.length_append, List.flatMap_append, List.flatMap_cons, List.flatMap_nil, List.append_nil]; exact hown'
    · refine (Below.refl base W).grown hgrow hbase ?_
      intro k hk
      cases p with
      | none => simp [Value.ownBlock] at hk
      | some ad => simp [Value.ownBlock] at hk; subst hk; exact (hown.lt ad rfl).1
    · intro g hg hne
      refine ⟨hgrow.block g hg fun e2 => ?_, fun ad had => ?_⟩
      · cases p with
        | none => simp [Value.ownBlock] at e2
        | some ad => simp [Value.ownBlock] at e2; exact hne ad rfl e2
      · subst had
        rcases hat with e2 | e2
        · cases p with
          | none => simp [Value.ownBlock] at e2
          | some ad2 => simp [Value.ownBlock] at e2; rw [e2]; exact hne ad2 rfl
        · simp [Value.ownBlock] at e2
          rw [e2]
          exact Nat.ne_of_lt hg
/-- A slice written out with one element. -/
theorem OwnR.one {β : Type} {enc : β → List Value} {k base : Nat} {e : TypeId} (W : World) (x : β) (hk : (enc x).length = k) (hb : base ≤ W.heap.size) : OwnR enc k base e (W.alloc (.cells (enc x).toArray e)) (some ⟨W.heap.size, 0, none⟩) 1 [x] := by
  refine ⟨by simp [hk], .inr ⟨W.heap.size, 1, (enc x).toArray, rfl, hb, heap_alloc_new W _, Nat.le_refl _, by decide, by simp [hk], by simpa using List.take_of_length_le (Nat.le_of_eq hk)⟩⟩
end Lum
namespace Lum
open Go Go.RowKit Go.Shelf
open Go.Lib (decDigits itoa)
theorem Blk.all12 {w : World} {g : Nat} {t : TypeId} {a0 a1 a2 a3 a4 a5 a6 a7 a8 a9 a10 a11 : Value} (h : Blk w g t #[a0, a1, a2, a3, a4, a5, a6, a7, a8, a9, a10, a11]) (b0 b1 b2 b3 b4 b5 b6 b7 b8 b9 b10 b11 : Value) : Blk ((((((((((((w.setCell ⟨g, 0, none⟩ b0).setCell ⟨g, 1, none⟩ b1).setCell ⟨g, 2, none⟩ b2).setCell ⟨g, 3, none⟩ b3).setCell ⟨g, 4, none⟩ b4).setCell ⟨g, 5, none⟩ b5).setCell ⟨g, 6, none⟩ b6).setCell ⟨g, 7, none⟩ b7).setCell ⟨g, 8, none⟩ b8).setCell ⟨g, 9, none⟩ b9).setCell ⟨g, 10, none⟩ b10).setCell ⟨g, 11, none⟩ b11) g t #[b0, b1, b2, b3, b4, b5, b6, b7, b8, b9, b10, b11] := by
  have h0 : Blk (w.setCell ⟨g, 0, none⟩ b0) g t #[b0, a1, a2, a3, a4, a5, a6, a7, a8, a9, a10, a11] := h.set_ 0 b0
  have h1 : Blk ((w.setCell ⟨g, 0, none⟩ b0).setCell ⟨g, 1, none⟩ b1) g t #[b0, b1, a2, a3, a4, a5, a6, a7, a8, a9, a10, a11] := h0.set_ 1 b1
  have h2 : Blk (((w.setCell ⟨g, 0, none⟩ b0).setCell ⟨g, 1, none⟩ b1).setCell ⟨g, 2, none⟩ b2) g t #[b0, b1, b2, a3, a4, a5, a6, a7, a8, a9, a10, a11] := h1.set_ 2 b2
  have h3 : Blk ((((w.setCell ⟨g, 0, none⟩ b0).setCell ⟨g, 1, none⟩ b1).setCell ⟨g, 2, none⟩ b2).setCell ⟨g, 3, none⟩ b3) g t #[b0, b1, b2, b3, a4, a5, a6, a7, a8, a9, a10, a11] := h2.set_ 3 b3
  have h4 : Blk (((((w.setCell ⟨g, 0, none⟩ b0).setCell ⟨g, 1, none⟩ b1).setCell ⟨g, 2, none⟩ b2).setCell ⟨g, 3, none⟩ b3).setCell ⟨g, 4, none⟩ b4) g t #[b0, b1, b2, b3, b4, a5, a6, a7, a8, a9, a10, a11] := h3.set_ 4 b4
  have h5 : Blk ((((((w.setCell ⟨g, 0, none⟩ b0).setCell ⟨g, 1, none⟩ b1).setCell ⟨g, 2, none⟩ b2).setCell ⟨g, 3, none⟩ b3).setCell ⟨g, 4, none⟩ b4).setCell ⟨g, 5, none⟩ b5) g t #[b0, b1, b2, b3, b4, b5, a6, a7, a8, a9, a10, a11] := h4.set_ 5 b5
  have h6 : Blk (((((((w.setCell ⟨g, 0, none⟩ b0).setCell ⟨g, 1, none⟩ b1).setCell ⟨g, 2, none⟩ b2).setCell ⟨g, 3, none⟩ b3).setCell ⟨g, 4, none⟩ b4).setCell ⟨g, 5, none⟩ b5).setCell ⟨g, 6, none⟩ b6) g t #[b0, b1, b2, b3, b4, b5, b6, a7, a8, a9, a10, a11] := h5.set_ 6 b6
  have h7 : Blk ((((((((w.setCell ⟨g, 0, none⟩ b0).setCell ⟨g, 1, none⟩ b1).setCell ⟨g, 2, none⟩ b2).setCell ⟨g, 3, none⟩ b3).setCell ⟨g, 4, none⟩ b4).setCell ⟨g, 5, none⟩ b5).setCell ⟨g, 6, none⟩ b6).setCell ⟨g, 7, none⟩ b7) g t #[b0, b1, b2, b3, b4, b5, b6, b7, a8, a9, a10, a11] := h6.set_ 7 b7
  have h8 : Blk (((((((((w.setCell ⟨g, 0, none⟩ b0).setCell ⟨g, 1, none⟩ b1).setCell ⟨g, 2, none⟩ b2).setCell ⟨g, 3, none⟩ b3).setCell ⟨g, 4, none⟩ b4).setCell ⟨g, 5, none⟩ b5).setCell ⟨g, 6, none⟩ b6).setCell ⟨g, 7, none⟩ b7).setCell ⟨g, 8, none⟩ b8) g t #[b0, b1, b2, b3, b4, b5, b6, b7, b8, a9, a10, a11] := h7.set_ 8 b8
  have h9 : Blk ((((((((((w.setCell ⟨g, 0, none⟩ b0).setCell ⟨g, 1, none⟩ b1).setCell ⟨g, 2, none⟩ b2).setCell ⟨g, 3, none⟩ b3).setCell ⟨g, 4, none⟩ b4).setCell ⟨g, 5, none⟩ b5).setCell ⟨g, 6, none⟩ b6).setCell ⟨g, 7, none⟩ b7).setCell ⟨g, 8, none⟩ b8).setCell ⟨g, 9, none⟩ b9) g t #[b0, b1, b2, b3, b4, b5, b6, b7, b8, b9, a10, a11] := h8.set_ 9 b9
  have h10 : Blk (((((((((((w.setCell ⟨g, 0, none⟩ b0).setCell ⟨g, 1, none⟩ b1).setCell ⟨g, 2, none⟩ b2).setCell ⟨g, 3, none⟩ b3).setCell ⟨g, 4, none⟩ b4).setCell ⟨g, 5, none⟩ b5).setCell ⟨g, 6, none⟩ b6).setCell ⟨g, 7, none⟩ b7).setCell ⟨g, 8, none⟩ b8).setCell ⟨g, 9, none⟩ b9).setCell ⟨g, 10, none⟩ b10) g t #[b0, b1, b2, b3, b4, b5, b6, b7, b8, b9, b10, a11] := h9.set_ 10 b10
  have h11 : Blk ((((((((((((w.setCell ⟨g, 0, none⟩ b0).setCell ⟨g, 1, none⟩ b1).setCell ⟨g, 2, none⟩ b2).setCell ⟨g, 3, none⟩ b3).setCell ⟨g, 4, none⟩ b4).setCell ⟨g, 5, none⟩ b5).setCell ⟨g, 6, none⟩ b6).setCell ⟨g, 7, none⟩ b7).setCell ⟨g, 8, none⟩ b8).setCell ⟨g, 9, none⟩ b9).setCell ⟨g, 10, none⟩ b10).setCell ⟨g, 11, none⟩ b11) g t #[b0, b1, b2, b3, b4, b5, b6, b7, b8, b9, b10, b11] := h10.set_ 11 b11
  exact h11
theorem Blk.all4 {w : World} {g : Nat} {t : TypeId} {a0 a1 a2 a3 : Value} (h : Blk w g t #[a0, a1, a2, a3]) (b0 b1 b2 b3 : Value) : Blk ((((w.setCell ⟨g, 0, none⟩ b0).setCell ⟨g, 1, none⟩ b1).setCell ⟨g, 2, none⟩ b2).setCell ⟨g, 3, none⟩ b3) g t #[b0, b1, b2, b3] := by
  have h0 : Blk (w.setCell ⟨g, 0, none⟩ b0) g t #[b0, a1, a2, a3] := h.set_ 0 b0
  have h1 : Blk ((w.setCell ⟨g, 0, none⟩ b0).setCell ⟨g, 1, none⟩ b1) g t #[b0, b1, a2, a3] := h0.set_ 1 b1
  have h2 : Blk (((w.setCell ⟨g, 0, none⟩ b0).setCell ⟨g, 1, none⟩ b1).setCell ⟨g, 2, none⟩ b2) g t #[b0, b1, b2, a3] := h1.set_ 2 b2
  have h3 : Blk ((((w.setCell ⟨g, 0, none⟩ b0).setCell ⟨g, 1, none⟩ b1).setCell ⟨g, 2, none⟩ b2).setCell ⟨g, 3, none⟩ b3) g t #[b0, b1, b2, b3] := h2.set_ 3 b3
  exact h3
theorem Blk.all7 {w : World} {g : Nat} {t : TypeId} {a0 a1 a2 a3 a4 a5 a6 : Value} (h : Blk w g t #[a0, a1, a2, a3, a4, a5, a6]) (b0 b1 b2 b3 b4 b5 b6 : Value) : Blk (((((((w.setCell ⟨g, 0, none⟩ b0).setCell ⟨g, 1, none⟩ b1).setCell ⟨g, 2, none⟩ b2).setCell ⟨g, 3, none⟩ b3).setCell ⟨g, 4, none⟩ b4).setCell ⟨g, 5, none⟩ b5).setCell ⟨g, 6, none⟩ b6) g t #[b0, b1, b2, b3, b4, b5, b6] := by
  have h0 : Blk (w.setCell ⟨g, 0, none⟩ b0) g t #[b0, a1, a2, a3, a4, a5, a6] := h.set_ 0 b0
  have h1 : Blk ((w.setCell ⟨g, 0, none⟩ b0).setCell ⟨g, 1, none⟩ b1) g t #[b0, b1, a2, a3, a4, a5, a6] := h0.set_ 1 b1
  have h2 : Blk (((w.setCell ⟨g, 0, none⟩ b0).setCell ⟨g, 1, none⟩ b1).setCell ⟨g, 2, none⟩ b2) g t #[b0, b1, b2, a3, a4, a5, a6] := h1.set_ 2 b2
  have h3 : Blk ((((w.setCell ⟨g, 0, none⟩ b0).setCell ⟨g, 1, none⟩ b1).setCell ⟨g, 2, none⟩ b2).setCell ⟨g, 3, none⟩ b3) g t #[b0, b1, b2, b3, a4, a5, a6] := h2.set_ 3 b3
  have h4 : Blk (((((w.setCell ⟨g, 0, none⟩ b0).setCell ⟨g, 1, none⟩ b1).setCell ⟨g, 2, none⟩ b2).setCell ⟨g, 3, none⟩ b3).setCell ⟨g, 4, none⟩ b4) g t #[b0, b1, b2, b3, b4, a5, a6] := h3.set_ 4 b4
  have h5 : Blk ((((((w.setCell ⟨g, 0, none⟩ b0).setCell ⟨g, 1, none⟩ b1).setCell ⟨g, 2, none⟩ b2).setCell ⟨g, 3, none⟩ b3).setCell ⟨g, 4, none⟩ b4).setCell ⟨g, 5, none⟩ b5) g t #[b0, b1, b2, b3, b4, b5, a6] := h4.set_ 5 b5
  have h6 : Blk (((((((w.setCell ⟨g, 0, none⟩ b0).setCell ⟨g, 1, none⟩ b1).setCell ⟨g, 2, none⟩ b2).setCell ⟨g, 3, none⟩ b3).setCell ⟨g, 4, none⟩ b4).setCell ⟨g, 5, none⟩ b5).setCell ⟨g, 6, none⟩ b6) g t #[b0, b1, b2, b3, b4, b5, b6] := h5.set_ 6 b6
  exact h6
theorem Blk.gl12 {w : World} {g : Nat} {t : TypeId} {a0 a1 a2 a3 a4 a5 a6 a7 a8 a9 a10 a11 : Value} (h : Blk w g t #[a0, a1, a2, a3, a4, a5, a6, a7, a8, a9, a10, a11]) (b0 b1 b2 b3 : Value) : Blk ((((w.setCell ⟨g, 5, none⟩ b0).setCell ⟨g, 6, none⟩ b1).setCell ⟨g, 7, none⟩ b2).setCell ⟨g, 8, none⟩ b3) g t #[a0, a1, a2, a3, a4, b0, b1, b2, b3, a9, a10, a11] := by
  have h0 : Blk (w.setCell ⟨g, 5, none⟩ b0) g t #[a0, a1, a2, a3, a4, b0, a6, a7, a8, a9, a10, a11] := h.set_ 5 b0
  have h1 : Blk ((w.setCell ⟨g, 5, none⟩ b0).setCell ⟨g, 6, none⟩ b1) g t #[a0, a1, a2, a3, a4, b0, b1, a7, a8, a9, a10, a11] := h0.set_ 6 b1
  have h2 : Blk (((w.setCell ⟨g, 5, none⟩ b0).setCell ⟨g, 6, none⟩ b1).setCell ⟨g, 7, none⟩ b2) g t #[a0, a1, a2, a3, a4, b0, b1, b2, a8, a9, a10, a11] := h1.set_ 7 b2
  have h3 : Blk ((((w.setCell ⟨g, 5, none⟩ b0).setCell ⟨g, 6, none⟩ b1).setCell ⟨g, 7, none⟩ b2).setCell ⟨g, 8, none⟩ b3) g t #[a0, a1, a2, a3, a4, b0, b1, b2, b3, a9, a10, a11] := h2.set_ 8 b3
  exact h3
theorem Blk.fd12 {w : World} {g : Nat} {t : TypeId} {a0 a1 a2 a3 a4 a5 a6 a7 a8 a9 a10 a11 : Value} (h : Blk w g t #[a0, a1, a2, a3, a4, a5, a6, a7, a8, a9, a10, a11]) (b0 b1 b2 b3 b4 b5 : Value) : Blk ((((((w.setCell ⟨g, 4, none⟩ b0).setCell ⟨g, 5, none⟩ b1).setCell ⟨g, 6, none⟩ b2).setCell ⟨g, 7, none⟩ b3).setCell ⟨g, 8, none⟩ b4).setCell ⟨g, 9, none⟩ b5) g t #[a0, a1, a2, a3, b0, b1, b2, b3, b4, b5, a10, a11] := by
  have h0 : Blk (w.setCell ⟨g, 4, none⟩ b0) g t #[a0, a1, a2, a3, b0, a5, a6, a7, a8, a9, a10, a11] := h.set_ 4 b0
  have h1 : Blk ((w.setCell ⟨g, 4, none⟩ b0).setCell ⟨g, 5, none⟩ b1) g t #[a0, a1, a2, a3, b0, b1, a6, a7, a8, a9, a10, a11] := h0.set_ 5 b1
  have h2 : Blk (((w.setCell ⟨g, 4, none⟩ b0).setCell ⟨g, 5, none⟩ b1).setCell ⟨g, 6, none⟩ b2) g t #[a0, a1, a2, a3, b0, b1, b2, a7, a8, a9, a10, a11] := h1.set_ 6 b2
  have h3 : Blk ((((w.setCell ⟨g, 4, none⟩ b0).setCell ⟨g, 5, none⟩ b1).setCell ⟨g, 6, none⟩ b2).setCell ⟨g, 7, none⟩ b3) g t #[a0, a1, a2, a3, b0, b1, b2, b3, a8, a9, a10, a11] := h2.set_ 7 b3
  have h4 : Blk (((((w.setCell ⟨g, 4, none⟩ b0).setCell ⟨g, 5, none⟩ b1).setCell ⟨g, 6, none⟩ b2).setCell ⟨g, 7, none⟩ b3).setCell ⟨g, 8, none⟩ b4) g t #[a0, a1, a2, a3, b0, b1, b2, b3, b4, a9, a10, a11] := h3.set_ 8 b4
  have h5 : Blk ((((((w.setCell ⟨g, 4, none⟩ b0).setCell ⟨g, 5, none⟩ b1).setCell ⟨g, 6, none⟩ b2).setCell ⟨g, 7, none⟩ b3).setCell ⟨g, 8, none⟩ b4).setCell ⟨g, 9, none⟩ b5) g t #[a0, a1, a2, a3, b0, b1, b2, b3, b4, b5, a10, a11] := h4.set_ 9 b5
  exact h5
theorem Blk.gl7 {w : World} {g : Nat} {t : TypeId} {a0 a1 a2 a3 a4 a5 a6 : Value} (h : Blk w g t #[a0, a1, a2, a3, a4, a5, a6]) (b0 b1 b2 b3 : Value) : Blk ((((w.setCell ⟨g, 0, none⟩ b0).setCell ⟨g, 1, none⟩ b1).setCell ⟨g, 2, none⟩ b2).setCell ⟨g, 3, none⟩ b3) g t #[b0, b1, b2, b3, a4, a5, a6] := by
  have h0 : Blk (w.setCell ⟨g, 0, none⟩ b0) g t #[b0, a1, a2, a3, a4, a5, a6] := h.set_ 0 b0
  have h1 : Blk ((w.setCell ⟨g, 0, none⟩ b0).setCell ⟨g, 1, none⟩ b1) g t #[b0, b1, a2, a3, a4, a5, a6] := h0.set_ 1 b1
  have h2 : Blk (((w.setCell ⟨g, 0, none⟩ b0).setCell ⟨g, 1, none⟩ b1).setCell ⟨g, 2, none⟩ b2) g t #[b0, b1, b2, a3, a4, a5, a6] := h1.set_ 2 b2
  have h3 : Blk ((((w.setCell ⟨g, 0, none⟩ b0).setCell ⟨g, 1, none⟩ b1).setCell ⟨g, 2, none⟩ b2).setCell ⟨g, 3, none⟩ b3) g t #[b0, b1, b2, b3, a4, a5, a6] := h2.set_ 3 b3
  exact h3
theorem Blk.am12 {w : World} {g : Nat} {t : TypeId} {a0 a1 a2 a3 a4 a5 a6 a7 a8 a9 a10 a11 : Value} (h : Blk w g t #[a0, a1, a2, a3, a4, a5, a6, a7, a8, a9, a10, a11]) (b0 b1 : Value) : Blk ((w.setCell ⟨g, 10, none⟩ b0).setCell ⟨g, 11, none⟩ b1) g t #[a0, a1, a2, a3, a4, a5, a6, a7, a8, a9, b0, b1] := by
  have h0 : Blk (w.setCell ⟨g, 10, none⟩ b0) g t #[a0, a1, a2, a3, a4, a5, a6, a7, a8, a9, b0, a11] := h.set_ 10 b0
  have h1 : Blk ((w.setCell ⟨g, 10, none⟩ b0).setCell ⟨g, 11, none⟩ b1) g t #[a0, a1, a2, a3, a4, a5, a6, a7, a8, a9, b0, b1] := h0.set_ 11 b1
  exact h1
end Lum
