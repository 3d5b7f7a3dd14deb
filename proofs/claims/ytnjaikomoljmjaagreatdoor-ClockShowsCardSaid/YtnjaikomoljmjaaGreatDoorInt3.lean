/-
  Own integers: write; what the loop over the words gathers.
-/
import Derived.Test.YtnjaikomoljmjaaGreatDoorInt2
import Derived.Test.YtnjaikomoljmjaaGreatDoorFmt
import Derived.Shelf.Strings.BuilderX
set_option linter.unusedVariables false
set_option linter.unusedSimpArgs false
namespace Lum
open Go Go.RowKit Go.Shelf
open Go.Lib (decDigits itoa)
/-- The digits of one word: filled up to nine but in the highest one. -/
def wpart (ws : List Nat) (x : Fin ws.length) : Txt := if x.1 + 1 < ws.length then padk 9 (wAt ws x) else decDigits (wAt ws x)
def wtxt (ws : List Nat) (pre : List (Fin ws.length)) : Txt := pre.flatMap (wpart ws)
theorem wtxt_snoc (ws : List Nat) (pre : List (Fin ws.length)) (x : Fin ws.length) : wtxt ws (pre ++ [x]) = wtxt ws pre ++ wpart ws x := by simp [wtxt]
theorem wAt_lt (ws : List Nat) (h : ∀ d ∈ ws, d < B9) (x : Fin ws.length) : wAt ws x < B9 := by
  unfold wAt
  rw [List.getElem?_eq_getElem x.2]
  exact h _ (List.getElem_mem _)
theorem wpart_len (ws : List Nat) (h : ∀ d ∈ ws, d < B9) (x : Fin ws.length) : (wpart ws x).length ≤ 9 := by
  have h1 := wAt_lt ws h x
  rw [B9_eq] at h1
  unfold wpart
  split
  · rw [padk_len 9 _ (by omega) h1]; exact Nat.le_refl _
  · exact (dec_length_lt _ _ (by omega)).2 h1
theorem wtxt_len (ws : List Nat) (h : ∀ d ∈ ws, d < B9) (pre : List (Fin ws.length)) : (wtxt ws pre).length ≤ 9 * pre.length := by
  induction pre with
  | nil => simp [wtxt]
  | cons x r ih =>
    have e : wtxt ws (x :: r) = wpart ws x ++ wtxt ws r := by simp [wtxt]
    have := wpart_len ws h x
    rw [e, List.length_append, List.length_cons]; omega
theorem wtxt_all (m : Nat) (hm : m ≠ 0) : wtxt (magL m) (dnF (magL m).length (magL m).length) = decDigits m := by
  have hn := magL_ne m hm
  have hlt := lt_len m
  have key : ∀ k, k < (magL m).length → wtxt (magL m) (dnF (magL m).length (k + 1)) = decDigits (m / B9 ^ ((magL m).length - (k + 1))) := by
    intro k
    induction k with
    | zero =>
      intro hk
      rw [dnF_succ _ _ hk, dnF_zero]
      simp only [List.nil_append, wtxt, List.flatMap_cons, List.flatMap_nil, List.append_nil]
      unfold wpart
      rw [if_neg (by simp; omega), wAt_magL]
      simp only [Nat.sub_zero]
      unfold wd
      rw [Nat.mod_eq_of_lt]
      refine Nat.div_lt_of_lt_mul ?_
      rw [← Nat.pow_succ, show ((magL m).length - 1).succ = (magL m).length by omega]; exact hlt
    | succ k ih =>
      intro hk
      rw [dnF_succ _ _ hk, wtxt_snoc, ih (by omega)]
      unfold wpart
      rw [if_pos (by simp; omega), wAt_magL]
      simp only
      have e1 : (magL m).length - (k + 1) = ((magL m).length - (k + 1 + 1)) + 1 := by omega
      have e2 : (magL m).length - 1 - (k + 1) = (magL m).length - (k + 1 + 1) := by omega
      rw [e2, e1]
      generalize (magL m).length - (k + 1 + 1) = j at *
      have hne : m / B9 ^ (j + 1) ≠ 0 := by
        have h1 := magL_top m hm
        have h2 : B9 ^ (j + 1) ≤ B9 ^ ((magL m).length - 1) := Nat.pow_le_pow_right B9_pos (by omega)
        have h3 := Nat.div_pos (Nat.le_trans h2 h1) (Nat.pow_pos B9_pos)
        omega
      have hw := wd_lt m j
      rw [← dec_word 9 _ _ (by omega) hne (by rw [← B9_eq]; exact hw)]
      congr 1
      unfold wd
      rw [← B9_eq, Nat.pow_succ, ← Nat.div_div_eq_div_mul]
      have := Nat.div_add_mod (m / B9 ^ j) B9
      rw [Nat.mul_comm] at this; exact this
  have := key ((magL m).length - 1) (by omega)
  rw [show (magL m).length - 1 + 1 = (magL m).length by omega, Nat.sub_self, Nat.pow_zero, Nat.div_one] at this
  exact this
theorem repeat0 (c : Nat) : Lib.repeatL [48] c = List.replicate c 48 := by
  induction c with
  | zero => rfl
  | succ c ih => rw [List.replicate_succ, ← ih]; rfl
/-- What writing an integer gives. -/
def wrT (x : Int) : Txt × Int := if 4096 < dl x then ([], 23) else (itoa x, 0)

/-! ### A builder of the call's own while something else turns -/
theorem ownsRowF_kept {W W' : World} {B e : Nat} {v : Value} {n : Nat} {xs : List Value} (h : W.ownsRowF B e 1 v n xs) {row : Option Nat} (hg : W.grownBy W' row) (hr : ∀ j, row = some j → ∃ o : Obj, W.heap[j]? = some o ∧ o.isCells = false) : W'.ownsRowF B e 1 v n xs := by
  obtain ⟨h1, h2⟩ := h
  refine ⟨h1, ?_⟩
  rcases h2 with h2 | ⟨g, cap, cur, fz, hv, hg2, hh, r⟩
  · exact .inl h2
  · refine .inr ⟨g, cap, cur, fz, hv, hg2, ?_, r⟩
    rw [hg.block g (Array.getElem?_eq_some_iff.1 hh).1 (fun e' => by obtain ⟨o, ho, hc⟩ := hr g e'.symm; rw [hh] at ho; cases ho; cases hc)]
    exact hh
theorem builderAtF_kept {W W' : World} {T e : TypeId} {B b : Nat} {p : Value} {bs : List Value} (h : Lib.BuilderAtF T e B b p bs W) {row : Option Nat} (hg : W.grownBy W' row) (hr : ∀ j, row = some j → ∃ o : Obj, W.heap[j]? = some o ∧ o.isCells = false) : Lib.BuilderAtF T e B b p bs W' := by
  obtain ⟨h1, v, h2, h3, h4⟩ := h
  refine ⟨h1, v, ?_, ownsRowF_kept h3 hg hr, h4⟩
  rw [hg.block b (Array.getElem?_eq_some_iff.1 h2).1 (fun e' => by obtain ⟨o, ho, hc⟩ := hr b e'.symm; rw [h2] at ho; cases ho; cases hc)]
  exact h2
theorem isBuilderF_kept {W W' : World} {T e : TypeId} {B b : Nat} {bs : List Value} (h : Lib.IsBuilderF T e B b bs W) {row : Option Nat} (hg : W.grownBy W' row) (hr : ∀ j, row = some j → ∃ o : Obj, W.heap[j]? = some o ∧ o.isCells = false) : Lib.IsBuilderF T e B b bs W' :=
  h.elim (fun x => .inl (builderAtF_kept x hg hr)) (fun x => .inr (builderAtF_kept x hg hr))
theorem isBuilderF_below {W W' : World} {T e : TypeId} {B b : Nat} {bs : List Value} (h : Lib.IsBuilderF T e B b bs W) (hb : Below W.heap.size W W') : Lib.IsBuilderF T e B b bs W' := by
  have key : ∀ p, Lib.BuilderAtF T e B b p bs W → Lib.BuilderAtF T e B b p bs W' := by
    rintro p ⟨h1, v, h2, ⟨h3, h4⟩, h5⟩
    refine ⟨h1, v, (hb.block b (Array.getElem?_eq_some_iff.1 h2).1).trans h2, ⟨h3, ?_⟩, h5⟩
    rcases h4 with h4 | ⟨g, cap, cur, fz, hv, hg2, hh, r⟩
    · exact .inl h4
    · exact .inr ⟨g, cap, cur, fz, hv, hg2, (hb.block g (Array.getElem?_eq_some_iff.1 hh).1).trans hh, r⟩
  exact h.elim (fun x => .inl (key _ x)) (fun x => .inr (key _ x))
theorem keeps_below {W W' : World} (hb : Below W.heap.size W W') : KeepsOthers W W' := ⟨hb.size, fun k o hk _ => (hb.block k (Array.getElem?_eq_some_iff.1 hk).1).trans hk⟩
theorem keeps_others {W W' : World} {e : TypeId} {b : Nat} (hs : W.heap.size ≤ W'.heap.size) (h : Lib.OthersKept e (some b) W W') (hbc : ∀ o, W.heap[b]? = some o → o.isCells = true) : KeepsOthers W W' :=
  ⟨hs, fun k o hk ho => h k o hk (fun e' => by cases e'; rw [hbc o hk] at ho; cases ho) (fun c fz e' => by subst e'; cases ho)⟩
theorem builder_cells {T e : TypeId} {B b : Nat} {bs : List Value} {W : World} (h : Lib.IsBuilderF T e B b bs W) : ∀ o, W.heap[b]? = some o → o.isCells = true := by
  intro o ho
  rcases h with ⟨_, v, h2, _⟩ | ⟨_, v, h2, _⟩ <;> (rw [h2] at ho; cases ho; rfl)
/-- Where a round of the loop stands: the number's box, the builder, the iterator's box. -/
structure Wr (T e t2 t3 : TypeId) (w : World) (b : Bool) (p : Option Addr) (n c : Nat) (W : World) (txt : Txt) : Prop where
  bx : W.heap[w.heap.size]? = some (.cells #[.bool b, .slice p n c] t2 (0, 0))
  bl : Lib.IsBuilderF T e (w.heap.size + 1) (w.heap.size + 1) (Lib.byteCells txt) W
  bi : W.heap[w.heap.size + 1 + 1]? = some (.cells #[.slice p n c] t3 (0, 0))
  hB : Below w.heap.size w W
theorem Wr.quiet {T e t2 t3 : TypeId} {w : World} {b : Bool} {p : Option Addr} {n c : Nat} {W W' : World} {txt : Txt} (h : Wr T e t2 t3 w b p n c W txt) (hb : Below W.heap.size W W') : Wr T e t2 t3 w b p n c W' txt ∧ KeepsOthers W W' ∧ KeepB w.heap.size (w.heap.size + 1 + 1) W W' :=
  ⟨⟨(hb.block _ (Array.getElem?_eq_some_iff.1 h.bx).1).trans h.bx, isBuilderF_below h.bl hb, (hb.block _ (Array.getElem?_eq_some_iff.1 h.bi).1).trans h.bi, h.hB.trans (hb.mono h.hB.size)⟩, keeps_below hb, ⟨hb.mono h.hB.size, hb.block _ (Array.getElem?_eq_some_iff.1 h.bi).1⟩⟩
theorem Wr.wrote {T e t2 t3 : TypeId} {w : World} {b : Bool} {p : Option Addr} {n c : Nat} {W W' : World} {txt s : Txt} (h : Wr T e t2 t3 w b p n c W txt) (hte : t3 ≠ e)
    (h1 : Lib.BuilderAtF T e (w.heap.size + 1) (w.heap.size + 1) (.pointer (some ⟨w.heap.size + 1, 0, none⟩)) (Lib.byteCells txt ++ Lib.byteCells s) W') (h2 : Below (w.heap.size + 1) W W') (h3 : Lib.OthersKept e (some (w.heap.size + 1)) W W') :
    Wr T e t2 t3 w b p n c W' (txt ++ s) ∧ KeepsOthers W W' ∧ KeepB w.heap.size (w.heap.size + 1 + 1) W W' := by
  have hbi := h3 _ _ h.bi (by simp) (fun c fz e' => by cases e'; exact hte rfl)
  refine ⟨⟨(h2.block _ (by omega)).trans h.bx, ?_, hbi, h.hB.trans (h2.mono (by omega))⟩, keeps_others h2.size h3 (builder_cells h.bl), ⟨h2.mono (by omega), by rw [hbi, h.bi]⟩⟩
  rw [Lib.byteCells_append]; exact .inr h1
theorem Wr.own (T e t2 t3 : TypeId) (w : World) (b : Bool) (p : Option Addr) (n c : Nat) {β : Type} (f : β → Txt) (N : Nat) (hN : w.heap.size ≤ N) : OwnFrom N (fun s W => Wr T e t2 t3 w b p n c W (f s)) := by
  intro s W W' row h hg hr
  have hr' := fun r e => (hr r e).2
  have blk : ∀ (k : Nat) (cs : Array Value) (t : TypeId), W.heap[k]? = some (Obj.cells cs t (0, 0)) → W'.heap[k]? = some (Obj.cells cs t (0, 0)) := fun k cs t hk => by
    rw [hg.block k (Array.getElem?_eq_some_iff.1 hk).1 (fun e' => by obtain ⟨o, ho, hc⟩ := hr' k e'.symm; rw [hk] at ho; cases ho; cases hc)]
    exact hk
  exact ⟨blk _ _ _ h.bx, isBuilderF_kept h.bl hg hr', blk _ _ _ h.bi, h.hB.grown hg h.hB.size (fun k e => Nat.le_trans hN (hr k e).1)⟩
end Lum
