/-
  Waves: Flip, Mirror of the reference. Waves: Tidy of the reference.
-/
import Derived.Test.YtbamcfhmkohbmaaGreatDoorWv8
import Derived.Deep.AppendLies
import Derived.Deep.RegionHeld3
import Derived.Test.YtbamcfhmkohbmaaGreatDoorWv9
set_option linter.unusedVariables false
set_option linter.unusedSimpArgs false
namespace Lum
open Go Go.RowKit Go.Shelf
open Go.Lib (decDigits itoa)
/-- append(s, p), one point, at a step of a region that draws. -/
theorem step_appP {P : Program} {ops : Array Oper} {o : Oper} {a : Act} {K : Act → World → Prop} {Q : Exit → Act → World → Prop} {E : Prop} (hgd : o.guard = none) (s x : Operand) (t : TypeId)
    (ho : o.op = .call { callee := .builtin .append, args := #[s, x], argTypes := #[t, t] })
    (base : Nat) (e : TypeId) (i : TypeInfo) (z : Value) (bytes : Nat) (ht : P.underlying t = some (.slice e)) (hi : P.info? e = some i) (hz : i.zero = some z)
    (hsize : i.size = 2) (hby : i.bytes = bytes) (hzs : z.cells.size = 2) (hbs : bytes ≤ 32)
    (p : Option Addr) (c : Nat) (l : List (Int × Int)) (n : Nat) (hln : n = l.length) (W : World) (y : Int × Int) (hs : a.eval s = .slice p n c) (hown : OwnP base e W p c l)
    (hx : a.eval x = .slice (some ⟨W.heap.size, 0, none⟩) 1 1)
    (hn : l.length < 1000000000) (hbase : base ≤ W.heap.size)
    (h : ∀ p' c' w', OwnP base e w' p' c' (l ++ [y]) → Below base (W.alloc (.cells #[.int .i64 y.1, .int .i64 y.2] e)) w' → K (a.put o.dst (.slice p' (n + 1) c')) w') :
    if Region.wanted o (yielded ops a.tmps) = true then Oper.wp P o a (W.alloc (.cells #[.int .i64 y.1, .int .i64 y.2] e)) K Q else E := by
  subst hln
  refine step_append_lies _ hgd s x t ho base e i z 2 bytes ht hi hz hsize hby hzs (by decide) _ _ _ hs (World.ownsRow.alloc hown _) ⟨W.heap.size, 0, none⟩ 1 1 [.int .i64 y.1, .int .i64 y.2] hx rfl
    (fun j u hu => by rw [addr_add, Nat.zero_add, World.cell?_alloc_new]; simpa using hu) (by simp [Value.oneCell']) (by decide) (by unfold maxLen; omega) ?_ (by rw [World.size_alloc]; omega) _ rfl ?_
  · have : (l.length + 1) * bytes ≤ 1000000001 * 32 := Nat.mul_le_mul (by omega) hbs
    omega
  · intro g cap w' hown' hgrow _ _
    refine h _ cap w' ?_ ?_
    · unfold OwnP
      rw [List.length_append, ptCells_snoc]; exact hown'
    · refine (Below.refl base _).grown hgrow (by rw [World.size_alloc]; omega) ?_
      intro k hk
      cases p with
      | none => simp [Value.ownBlock] at hk
      | some ad => simp [Value.ownBlock] at hk; subst hk; exact (hown.lt ad rfl).1

theorem take_snocP {l : List (Int × Int)} {k : Nat} (h : k < l.length) : l.take (k + 1) = l.take k ++ [(pX l k, pY l k)] := by
  rw [List.take_succ_eq_append_getElem h, pt_at h]
theorem bTr {B : Nat} {w W W' : World} {R : Prop} (h : Below B w W ∧ R) (h2 : Below B W W') : Below B w W' := h.1.trans h2
theorem bTc {w W W' : World} {R : Prop} (h : Below w.heap.size w W ∧ R) (h2 : Below W.heap.size W W') : Below w.heap.size w W' := bch' h.1 h2
theorem bAl {w W : World} {R : Prop} (h : Below w.heap.size w W ∧ R) (o : Obj) : Below w.heap.size w (W.alloc o) := h.1.alloc h.1.size o
end Lum
namespace Go.Proofs.YtbamcfhmkohbmaaGreatDoor
open Go.RowKit Go.Shelf Lum
open Go.Lib (decDigits itoa)
attribute [local go_sem] bs_get bs_extract_end bs_extract_from bs_extract bs_append

end Go.Proofs.YtbamcfhmkohbmaaGreatDoor
namespace Lum
open Go Go.RowKit Go.Shelf
open Go.Lib (decDigits itoa)
/-- append(s, q...), points of which there is one at least, at a step of a region that draws. -/
theorem step_appsP {P : Program} {ops : Array Oper} {o : Oper} {a : Act} {K : Act → World → Prop} {Q : Exit → Act → World → Prop} {E : Prop} (hgd : o.guard = none) (s x : Operand) (t : TypeId)
    (ho : o.op = .call { callee := .builtin .append, args := #[s, x], argTypes := #[t, t] })
    (base : Nat) (e : TypeId) (i : TypeInfo) (z : Value) (bytes : Nat) (ht : P.underlying t = some (.slice e)) (hi : P.info? e = some i) (hz : i.zero = some z)
    (hsize : i.size = 2) (hby : i.bytes = bytes) (hzs : z.cells.size = 2) (hbs : bytes ≤ 32)
    (p : Option Addr) (c : Nat) (l : List (Int × Int)) (n : Nat) (hln : n = l.length) (W : World) (hs : a.eval s = .slice p n c) (hown : OwnP base e W p c l)
    (b of m c2 : Nat) (l2 : List (Int × Int)) (hx : a.eval x = .slice (some ⟨b, of, none⟩) m c2) (hm : m = l2.length) (hne : 0 < m) (hc : ∀ (j : Nat) (u : Value), (ptCells l2)[j]? = some u → W.cell? ⟨b, of + j, none⟩ = some u)
    (hn : l.length + l2.length < 1000000000) (hbase : base ≤ W.heap.size)
    (h : ∀ p' c' N w', N = (l ++ l2).length → OwnP base e w' p' c' (l ++ l2) → Below base W w' → K (a.put o.dst (.slice p' N c')) w') :
    if Region.wanted o (yielded ops a.tmps) = true then Oper.wp P o a W K Q else E := by
  subst hln hm
  refine step_append_lies _ hgd s x t ho base e i z 2 bytes ht hi hz hsize hby hzs (by decide) _ _ _ hs hown ⟨b, of, none⟩ l2.length c2 (ptCells l2) hx (ptCells_length l2)
    (fun j u hu => by rw [addr_add]; exact hc j u hu) (by
      intro u hu
      unfold ptCells at hu
      rw [List.mem_flatMap] at hu
      obtain ⟨q, -, hq⟩ := hu
      simp at hq; rcases hq with rfl | rfl <;> rfl) hne (by unfold maxLen; omega) ?_ hbase _ rfl ?_
  · have : (l.length + l2.length) * bytes ≤ 1000000000 * 32 := Nat.mul_le_mul (by omega) hbs
    omega
  · intro g cap w' hown' hgrow _ _
    refine h _ cap _ w' (by rw [List.length_append]) ?_ ?_
    · unfold OwnP
      rw [List.length_append, ptCells_append]; exact hown'
    · refine (Below.refl base _).grown hgrow hbase ?_
      intro k hk
      cases p with
      | none => simp [Value.ownBlock] at hk
      | some ad => simp [Value.ownBlock] at hk; subst hk; exact (hown.lt ad rfl).1
theorem bSz {w W : World} {R : Prop} (h : Below w.heap.size w W ∧ R) : w.heap.size ≤ W.heap.size := h.1.size
theorem OwnP.ptsN {base e : Nat} {W : World} {p : Option Addr} {c N : Nat} {l : List (Int × Int)} (h : OwnP base e W p c l) (hN : N = l.length) : PtsAt W (.slice p N c) l := by subst hN; exact h.pts
theorem OwnP.capN {base e : Nat} {W : World} {p : Option Addr} {c N : Nat} {l : List (Int × Int)} (h : OwnP base e W p c l) (hN : N = l.length) (hn : l ≠ []) : N ≤ c := by
  obtain ⟨g, _, _, _, h5, _⟩ := h.open_ hn
  omega
theorem PtC.takeC {W : World} {b o : Nat} {l : List (Int × Int)} (h : PtC W b o l) (k : Nat) (j : Nat) (u : Value) (hu : (ptCells (l.take k))[j]? = some u) : W.cell? ⟨b, o + j, none⟩ = some u := by
  refine h.cells j u ?_
  have e : ptCells l = ptCells (l.take k) ++ ptCells (l.drop k) := by rw [← ptCells_append, List.take_append_drop]
  rw [e, List.getElem?_append_left (List.getElem?_eq_some_iff.1 hu).1]; exact hu
theorem PtC.dropC {W : World} {b o : Nat} {l : List (Int × Int)} (h : PtC W b o l) {k : Nat} (hk : k ≤ l.length) (j : Nat) (u : Value) (hu : (ptCells (l.drop k))[j]? = some u) : W.cell? ⟨b, o + k * 2 + j, none⟩ = some u := by
  have hl : (ptCells (l.take k)).length = k * 2 := by rw [ptCells_length, List.length_take, Nat.min_eq_left hk]
  have := h.cells (k * 2 + j) u (by
    have e : ptCells l = ptCells (l.take k) ++ ptCells (l.drop k) := by rw [← ptCells_append, List.take_append_drop]
    rw [e, List.getElem?_append_right (by omega), hl, show k * 2 + j - k * 2 = j by omega]; exact hu)
  rwa [← Nat.add_assoc] at this
theorem OwnP.empty {base e : Nat} {W : World} (hb : base ≤ W.heap.size) : OwnP base e (W.alloc (.cells #[] e)) (some ⟨W.heap.size, 0, none⟩) 0 [] := by
  refine ⟨rfl, .inr ⟨W.heap.size, 0, #[], rfl, hb, heap_alloc_new W _, by simp, by unfold maxLen; omega, by simp, rfl⟩⟩
theorem firstS_hit {l : List (Int × Int)} {n k : Nat} (h : k + 1 < l.length) (hs : strtAt l k = true) : firstS l (n + 1) k = some k := by rw [firstS, if_pos h, if_pos hs]
theorem firstS_go {l : List (Int × Int)} {n k : Nat} (h : k + 1 < l.length) (hs : strtAt l k = false) : firstS l (n + 1) k = firstS l n (k + 1) := by rw [firstS, if_pos h, if_neg (by rw [hs]; simp)]
theorem firstS_end {l : List (Int × Int)} {n k : Nat} (h : ¬ k + 1 < l.length) : firstS l n k = none := by
  cases n with
  | zero => rfl
  | succ n => rw [firstS, if_neg h]
theorem tidR_none {m : Nat} {l : List (Int × Int)} (h : firstS l l.length 1 = none) : tidR m l = l := by
  cases m with
  | zero => rfl
  | succ m => rw [tidR, h]
theorem tidR_some {m k : Nat} {l : List (Int × Int)} (h : firstS l l.length 1 = some k) : tidR (m + 1) l = tidR m (l.eraseIdx k) := by rw [tidR, h]
end Lum
namespace Go.Proofs.YtbamcfhmkohbmaaGreatDoor
open Go.RowKit Go.Shelf Lum
open Go.Lib (decDigits itoa)
attribute [local go_sem] bs_get bs_extract_end bs_extract_from bs_extract bs_append

end Go.Proofs.YtbamcfhmkohbmaaGreatDoor
