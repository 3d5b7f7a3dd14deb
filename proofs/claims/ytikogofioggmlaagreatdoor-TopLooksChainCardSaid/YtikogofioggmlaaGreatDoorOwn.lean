/-
  Slices that a call makes by append, one element at a time; and slices of numbers that are only read.
-/
import Derived.Test.YtikogofioggmlaaGreatDoorMb
set_option linter.unusedVariables false
set_option linter.unusedSimpArgs false
namespace Lum
open Go Go.RowKit

theorem addr_add (b o j : Nat) : (⟨b, o, none⟩ : Addr).add j = ⟨b, o + j, none⟩ := by unfold Addr.add; split <;> simp_all
/-- The slice (p, length of xs, c) is the call's own, from block base on, and holds xs. -/
def OwnL (base e : Nat) (W : World) (p : Option Addr) (c : Nat) (xs : List Value) : Prop := W.ownsRow base e 1 (.slice p xs.length c) xs.length xs
theorem OwnL.nil (base e : Nat) (W : World) : OwnL base e W none 0 [] := World.ownsRow_nil W base e 1
theorem OwnL.lt {base e : Nat} {W : World} {p : Option Addr} {c : Nat} {xs : List Value} (h : OwnL base e W p c xs) : ∀ a, p = some a → base ≤ a.block ∧ a.block < W.heap.size := by
  intro a ha
  subst ha
  exact World.ownsRow.lt h a.block rfl
theorem OwnL.keep {base e : Nat} {W W' : World} {p : Option Addr} {c : Nat} {xs : List Value} (h : OwnL base e W p c xs) (hb : Below W.heap.size W W') : OwnL base e W' p c xs := by
  obtain ⟨h1, h2⟩ := h
  refine ⟨h1, ?_⟩
  rcases h2 with h2 | ⟨g, cap, cur, hv, hg, hh, r⟩
  · exact .inl h2
  · exact .inr ⟨g, cap, cur, hv, hg, by rw [hb.block g (Array.getElem?_eq_some_iff.1 hh).1]; exact hh, r⟩
theorem ownsRow_slice {W : World} {base e n : Nat} {v : Value} {xs : List Value} (h : W.ownsRow base e 1 v n xs) : ∃ p c, v = .slice p n c := by
  rcases h.2 with ⟨rfl, rfl⟩ | ⟨g, cap, cur, rfl, _⟩
  · exact ⟨none, 0, rfl⟩
  · exact ⟨_, _, rfl⟩
/-- append(s, x), one element. -/
theorem wpList_app1 {P : Program} {ops : Array Oper} {rest : List Oper} {o : Oper} {a : Act} {Q : Exit → Act → World → Prop} (hgd : o.guard = none) (s x : Operand) (t : TypeId)
    (ho : o.op = .call { callee := .builtin .append, args := #[s, x], argTypes := #[t, t] })
    (base : Nat) (e : TypeId) (i : TypeInfo) (z : Value) (bytes : Nat) (ht : P.underlying t = some (.slice e)) (hi : P.info? e = some i) (hz : i.zero = some z)
    (hsize : i.size = 1) (hby : i.bytes = bytes) (hzs : z.cells.size = 1) (hbs : bytes ≤ 16)
    (p : Option Addr) (c : Nat) (xs : List Value) (W : World) (y : Value) (hs : a.eval s = .slice p xs.length c) (hown : OwnL base e W p c xs)
    (hx : a.eval x = .slice (some ⟨W.heap.size, 0, none⟩) 1 1) (h1 : y.oneCell' = true)
    (hn : xs.length < 1000000000) (hbase : base ≤ W.heap.size)
    (h : ∀ p' c' w', OwnL base e w' p' c' (xs ++ [y]) → Below base W w' → wpList P ops Q rest (a.put o.dst (.slice p' (xs.length + 1) c')) w') :
    wpList P ops Q (o :: rest) a (W.alloc (.cells #[y] e)) := by
  refine wpList_append_own _ hgd s x t ho base e i z 1 bytes ht hi hz hsize hby hzs (by decide) _ _ _ hs (World.ownsRow.alloc hown _) ⟨W.heap.size, 0, none⟩ 1 1 [y] hx rfl
    (cell_one_new W y e) (by simpa using h1) (by unfold maxLen; omega) ?_ (by rw [World.size_alloc]; omega) ?_
  · have : (xs.length + 1) * bytes ≤ 1000000001 * 16 := Nat.mul_le_mul (by omega) hbs
    omega
  · intro v' w' hown' hgrow _
    obtain ⟨p', c', rfl⟩ := ownsRow_slice hown'
    refine h p' c' w' ?_ ?_
    · unfold OwnL
      rw [List.length_append]; exact hown'
    · refine ((Below.refl base W).alloc hbase _).grown hgrow (by rw [World.size_alloc]; omega) ?_
      intro k hk
      cases p with
      | none => simp [Value.ownBlock] at hk
      | some ad => simp [Value.ownBlock] at hk; subst hk; exact (hown.lt ad rfl).1

/-- The slice v reads as the numbers ws. -/
def NatsAt (k : IntKind) (W : World) (v : Value) (ws : List Nat) : Prop :=
  (v = .slice none 0 0 ∧ ws = []) ∨ ∃ b o c, v = .slice (some ⟨b, o, none⟩) ws.length c ∧ b < W.heap.size ∧ ws.length ≤ c ∧ c ≤ maxLen ∧ ∀ j, j < ws.length → W.cell? ⟨b, o + j, none⟩ = some (.int k (ws[j]?.getD 0 : Nat))
theorem NatsAt.below {k : IntKind} {W W' : World} {v : Value} {ws : List Nat} (h : NatsAt k W v ws) (hb : Below W.heap.size W W') : NatsAt k W' v ws := by
  rcases h with h | ⟨b, o, c, e, h1, h2, h3, h4⟩
  · exact .inl h
  · exact .inr ⟨b, o, c, e, Nat.lt_of_lt_of_le h1 hb.size, h2, h3, fun j hj => (hb.cell (p := ⟨b, o + j, none⟩) h1).trans (h4 j hj)⟩
theorem NatsAt.of_own {k : IntKind} {base e : Nat} {W : World} {p : Option Addr} {c : Nat} {ws : List Nat} (h : OwnL base e W p c (ws.map fun d : Nat => Value.int k (d : Int))) : NatsAt k W (.slice p ws.length c) ws := by
  unfold OwnL at h
  rw [List.length_map] at h
  have hc := fun g (hg : Value.ownBlock (.slice p ws.length c) = some g) => World.ownsRow.cells h hg
  have hl := World.ownsRow.lt h
  rcases h.2 with ⟨h1, h2⟩ | ⟨g, cap, cur, hv, hg, hh, h5, h6, _⟩
  · simp at h2; subst h2; exact .inl ⟨h1, rfl⟩
  · injection hv with hv1 hv2 hv3
    subst hv1 hv3
    refine .inr ⟨g, 0, c, rfl, (hl g rfl).2, h5, h6, fun j hj => ?_⟩
    have := hc g rfl j (.int k (ws[j]?.getD 0 : Nat)) (by simp [hj])
    rwa [addr_add] at this

/-- The call's own slice of the numbers ws. -/
def OwnN (k : IntKind) (base e : Nat) (W : World) (p : Option Addr) (c : Nat) (ws : List Nat) : Prop := OwnL base e W p c (ws.map fun d : Nat => Value.int k (d : Int))
theorem OwnN.nil (k : IntKind) (base e : Nat) (W : World) : OwnN k base e W none 0 [] := OwnL.nil _ _ _
theorem OwnN.keep {k : IntKind} {base e : Nat} {W W' : World} {p : Option Addr} {c : Nat} {ws : List Nat} (h : OwnN k base e W p c ws) (hb : Below W.heap.size W W') : OwnN k base e W' p c ws := OwnL.keep h hb
theorem OwnN.nats {k : IntKind} {base e : Nat} {W : World} {p : Option Addr} {c : Nat} {ws : List Nat} (h : OwnN k base e W p c ws) : NatsAt k W (.slice p ws.length c) ws := NatsAt.of_own h
theorem wpList_appN {P : Program} {ops : Array Oper} {rest : List Oper} {o : Oper} {a : Act} {Q : Exit → Act → World → Prop} (hgd : o.guard = none) (s x : Operand) (t : TypeId)
    (ho : o.op = .call { callee := .builtin .append, args := #[s, x], argTypes := #[t, t] })
    (k : IntKind) (base e : Nat) (i : TypeInfo) (z : Value) (bytes : Nat) (ht : P.underlying t = some (.slice e)) (hi : P.info? e = some i) (hz : i.zero = some z)
    (hsize : i.size = 1) (hby : i.bytes = bytes) (hzs : z.cells.size = 1) (hbs : bytes ≤ 16)
    (p : Option Addr) (c : Nat) (ws : List Nat) (W : World) (d : Nat) (y : Int) (hy : y = (d : Int)) (hs : a.eval s = .slice p ws.length c) (hown : OwnN k base e W p c ws)
    (hx : a.eval x = .slice (some ⟨W.heap.size, 0, none⟩) 1 1)
    (hn : ws.length < 1000000000) (hbase : base ≤ W.heap.size)
    (h : ∀ p' c' w', OwnN k base e w' p' c' (ws ++ [d]) → Below base W w' → wpList P ops Q rest (a.put o.dst (.slice p' (ws.length + 1) c')) w') :
    wpList P ops Q (o :: rest) a (W.alloc (.cells #[.int k y] e)) := by
  subst hy
  refine wpList_app1 hgd s x t ho base e i z bytes ht hi hz hsize hby hzs hbs p c (ws.map fun d : Nat => Value.int k (d : Int)) W (.int k (d : Int)) (by rw [List.length_map]; exact hs) hown hx rfl (by simpa using hn) hbase ?_
  intro p' c' w' h1 h2
  rw [List.length_map]
  exact h p' c' w' (by unfold OwnN; rw [List.map_append]; exact h1) h2

/-- []byte to string. -/
theorem conv_nats {P : Program} (src dst e : TypeId) (hs : P.underlying src = some (.slice e)) (he : P.underlying e = some (.int .u8)) (hd : P.underlying dst = some .string)
    (w : World) (p : Option Addr) (c : Nat) (l : Txt) (h : NatsAt .u8 w (.slice p l.length c) (l.map (·.toNat))) (h0 : l ≠ []) :
    (convert src dst (.slice p l.length c)).run P w = .ok (.string ⟨l.toArray⟩) w := by
  rcases h with ⟨h1, h2⟩ | ⟨b, o, c', h1, h2, h3, h4, h5⟩
  · simp at h2; exact absurd h2 h0
  · injection h1 with h6 h7 h8
    subst h6 h8
    have := conv_str (P := P) src dst e hs he hd w ⟨b, o, none⟩ c (l.map fun x => (x.toNat : Int)) (by
      intro j v hv
      simp at hv
      obtain ⟨x, hx, rfl⟩ := hv
      have hj : j < l.length := (List.getElem?_eq_some_iff.1 hx).1
      have := h5 j (by simpa using hj)
      rw [addr_add, this]; simp [hx])
    rw [List.length_map] at this
    rw [this]
    congr 4
    rw [List.map_map]
    conv => rhs; rw [← List.map_id l]
    apply List.map_congr_left
    intro x _
    simp
theorem NatsAt.cell {k : IntKind} {W : World} {b o c n : Nat} {ws : List Nat} (h : NatsAt k W (.slice (some ⟨b, o, none⟩) n c) ws) : b < W.heap.size ∧ n = ws.length ∧ ∀ j, j < ws.length → W.cell? ⟨b, o + j, none⟩ = some (.int k (ws[j]?.getD 0 : Nat)) := by
  rcases h with ⟨h1, h2⟩ | ⟨b, o, c', h1, h2, h3, h4, h5⟩
  · cases h1
  · injection h1 with h6 h7 h8
    injection h6 with h6; injection h6 with h9 h10 _
    subst h7 h9 h10
    exact ⟨h2, rfl, h5⟩
theorem NatsAt.some {k : IntKind} {W : World} {p : Option Addr} {c n : Nat} {ws : List Nat} (h : NatsAt k W (.slice p n c) ws) (h0 : 0 < ws.length) : ∃ b o, p = Option.some ⟨b, o, none⟩ := by
  rcases h with ⟨h1, h2⟩ | ⟨b, o, c', h1, _⟩
  · subst h2; simp at h0
  · injection h1 with h6 h7 h8
    exact ⟨b, o, h6⟩
/-- A word of a list of words, by its value. -/
theorem word_at (b : Nat) (hb : 0 < b) (ws : List Nat) (h : ∀ d ∈ ws, d < b) (j : Nat) : ws[j]?.getD 0 = mv b ws / b ^ j % b := by
  rw [← mv_getD b hb ws h j, List.getD_eq_getElem?_getD]
theorem word_beyond (b n j k : Nat) (h : n < b ^ j) (hk : j ≤ k) (hb : 0 < b) : n / b ^ k % b = 0 := by
  rw [Nat.div_eq_of_lt (Nat.lt_of_lt_of_le h (Nat.pow_le_pow_right hb hk))]; simp

/-! ### An array of numbers of the call's own, written in place -/
def RowN (k : IntKind) (e : TypeId) (W : World) (g : Nat) (ws : List Nat) : Prop := W.heap[g]? = some (.cells (ws.map fun d : Nat => Value.int k (d : Int)).toArray e (0, 0))
theorem RowN.lt {k : IntKind} {e : TypeId} {W : World} {g : Nat} {ws : List Nat} (h : RowN k e W g ws) : g < W.heap.size := (Array.getElem?_eq_some_iff.1 h).1
theorem RowN.cell {k : IntKind} {e : TypeId} {W : World} {g : Nat} {ws : List Nat} (h : RowN k e W g ws) (j : Nat) (hj : j < ws.length) : W.cell? ⟨g, j, none⟩ = some (.int k (ws[j]?.getD 0 : Nat)) := by
  rw [cell_of_row W g j _ e (0, 0) h]; simp [hj]
theorem RowN.frozen {k : IntKind} {e : TypeId} {W : World} {g : Nat} {ws : List Nat} (h : RowN k e W g ws) (j : Nat) : W.frozen? ⟨g, j, none⟩ = false := by
  unfold RowN at h; simp [World.frozen?, h]
theorem RowN.set {k : IntKind} {e : TypeId} {W : World} {g : Nat} {ws : List Nat} (h : RowN k e W g ws) (j d : Nat) : RowN k e (W.setCell ⟨g, j, none⟩ (.int k (d : Int))) g (ws.set j d) := by
  unfold RowN at *
  simp only [World.setCell, Array.getElem?_modify, if_true, h, Option.map_some]
  simp [List.map_set]
theorem RowN.keep {k : IntKind} {e : TypeId} {W W' : World} {g : Nat} {ws : List Nat} (h : RowN k e W g ws) (hb : Below W.heap.size W W') : RowN k e W' g ws := by
  unfold RowN at *; rw [hb.block g (Array.getElem?_eq_some_iff.1 h).1]; exact h
theorem RowN.drewN {k : IntKind} {e : TypeId} {W : World} {g : Nat} {ws : List Nat} (h : RowN k e W g ws) (n : Nat) : RowN k e (W.drewN n) g ws := h
theorem RowN.nats {k : IntKind} {e : TypeId} {W : World} {g : Nat} {ws : List Nat} (h : RowN k e W g ws) (hl : ws.length ≤ maxLen) : NatsAt k W (.slice (Option.some ⟨g, 0, none⟩) ws.length ws.length) ws :=
  .inr ⟨g, 0, ws.length, rfl, h.lt, Nat.le_refl _, hl, fun j hj => by rw [Nat.zero_add]; exact h.cell j hj⟩
theorem madeCells_one (v : Value) (n : Nat) : (madeCells #[v] n).toList = List.replicate n v := by
  apply List.ext_getElem
  · simp [madeCells]
  · intro i h1 h2
    simp [madeCells, Nat.mod_one]
theorem wpList_makeN {P : Program} (w : World) {ops : Array Oper} {rest : List Oper} {o : Oper} {a : Act} {Q : Exit → Act → World → Prop}
    (hg : o.guard = none) (l c : Operand) (t : TypeId) (hop : o.op = Op.makeSlice t l c)
    (k : IntKind) (base : Nat) (e : TypeId) (i : TypeInfo) (h1 : P.underlying t = some (.slice e)) (h2 : P.info? e = some i) (h3 : i.zero = some (.int k 0)) (h4 : i.size = 1) (h5 : i.bytes ≤ 16)
    (kl kc : IntKind) (L C : Int) (n : Nat) (hl : a.eval l = .int kl L) (hc : a.eval c = .int kc C) (hL : L = (n : Int)) (hC : C = (n : Int)) (hn : n ≤ 1000000000) (b4 : base ≤ w.heap.size)
    (hK : ∀ w', RowN k e w' w.heap.size (List.replicate n 0) → Below base w w' → w.heap.size < w'.heap.size → wpList P ops Q rest (a.put o.dst (.slice (Option.some ⟨w.heap.size, 0, none⟩) n n)) w') :
    wpList P ops Q (o :: rest) a w := by
  refine wpList_make_full w hg l c t hop base e i (.int k 0) 1 h1 h2 h3 h4 kl kc L C n hl hc hL hC ?_ (by unfold maxLen; omega) b4 ?_
  · have : i.bytes * n ≤ 16 * 1000000000 := Nat.mul_le_mul h5 hn
    omega
  · intro w' hown hgrow
    have hrow : RowN k e w' w.heap.size (List.replicate n 0) := by
      rcases hown.2 with ⟨h6, _⟩ | ⟨g, cap, cur, hv, _, hh, _, _, hsz, htk⟩
      · cases h6
      · injection hv with hv1 hv2 hv3
        injection hv1 with hv1; injection hv1 with hv4 _ _
        subst hv4 hv3
        unfold RowN
        rw [hh]
        have e1 : cur.toList = List.replicate n (.int k 0) := by
          rw [List.take_of_length_le (by simp [hsz])] at htk
          rw [htk, Nat.mul_one]; exact madeCells_one _ _
        have e2 : cur = (List.replicate n (.int k 0) : List Value).toArray := by rw [← e1]
        rw [e2]; simp
    exact hK w' hrow ((Below.refl base w).grown hgrow b4 (fun k hk => by cases hk)) hrow.lt
end Lum
