/-
  The iterator (magnitude).down: its contract.
  (magnitude).cut.
-/
import Derived.RangeFuncNested
import Derived.RangeFuncBound
import Derived.RangeFuncCalls
import Derived.RangeFuncLeaves
import Derived.RangeFuncBox
import Derived.Shelf.Abstract
import Derived.WalkKit
import Derived.OwnWalkIn
import Derived.TacticsInMore
import Derived.LoopNIn
import Derived.LoopIn
import Derived.Maps.AppendAt
import Derived.Test.YtikogofioggmlaaGreatDoorOwn
set_option linter.unusedVariables false
set_option linter.unusedSimpArgs false
namespace Lum
open Go Go.RowKit Go.Shelf
/-- The places in the order in which down yields them: the first k. -/
def dnF (n k : Nat) : List (Fin n) := (List.finRange n).reverse.take k
theorem dnF_succ (n k : Nat) (h : k < n) : dnF n (k + 1) = dnF n k ++ [⟨n - 1 - k, by omega⟩] := by
  unfold dnF
  rw [List.take_succ_eq_append_getElem (by simpa using h)]
  congr 1
  simp [List.getElem_reverse]
theorem dnF_length (n k : Nat) (h : k ≤ n) : (dnF n k).length = k := by simp [dnF]; omega
theorem dnF_zero (n : Nat) : dnF n 0 = [] := by simp [dnF]
/-- What comes behind the first k, is the next one. -/
theorem dnF_snoc {n : Nat} {pre : List (Fin n)} {x : Fin n} (h : pre ++ [x] = dnF n (pre.length + 1)) (hl : pre.length < n) : pre = dnF n pre.length ∧ x.1 + pre.length + 1 = n := by
  rw [dnF_succ n _ hl] at h
  obtain ⟨h1, h2⟩ := List.append_inj' h rfl
  refine ⟨h1, ?_⟩
  have : x = ⟨n - 1 - pre.length, by omega⟩ := by simpa using h2
  rw [this]; simp; omega
/-- What a round that goes on keeps: whatever lay below n₀, and block Bs. -/
def KeepB (n₀ Bs : Nat) (W W' : World) : Prop := Below n₀ W W' ∧ W'.heap[Bs]? = W.heap[Bs]?
theorem KeepB.refl (n₀ Bs : Nat) (W : World) : KeepB n₀ Bs W W := ⟨Below.refl _ _, rfl⟩
theorem KeepB.t {n₀ Bs : Nat} {A B C : World} (h : KeepB n₀ Bs A B) (k : KeepB n₀ Bs B C) : KeepB n₀ Bs A C := ⟨h.1.trans k.1, k.2.trans h.2⟩
theorem KeepB.b {n₀ Bs : Nat} {w : World} (hn : n₀ ≤ w.heap.size) (hB : Bs < w.heap.size) (W : World) (l : Nat) (o o' : Obj) (hl : w.heap.size ≤ l) (h : W.heap[l]? = some o) (h1 : o.isCells = false) (h2 : o.isWalk = false) : KeepB n₀ Bs W (W.putObj l o') :=
  ⟨belowK_b hn W l o o' hl h h1 h2, World.putObj_heap_other (by omega)⟩
theorem KeepB.setCell {n₀ Bs : Nat} {W0 W : World} (h : KeepB n₀ Bs W0 W) {p : Addr} (hp : n₀ ≤ p.block) (hne : Bs ≠ p.block) (u : Value) : KeepB n₀ Bs W0 (W.setCell p u) :=
  ⟨h.1.setCell hp u, (Below.heap_setCell _ _ _ _ hne).trans h.2⟩
theorem KeepB.below {n₀ Bs m : Nat} {W0 W W' : World} (h : KeepB n₀ Bs W0 W) (hb : Below m W W') (hn : n₀ ≤ m) (hB : Bs < m) : KeepB n₀ Bs W0 W' :=
  ⟨h.1.trans (hb.mono hn), (hb.block _ hB).trans h.2⟩
theorem KeepB.alloc {n₀ Bs : Nat} {W0 W : World} (h : KeepB n₀ Bs W0 W) (o : Obj) (hn : n₀ ≤ W.heap.size) (hB : Bs < W.heap.size) : KeepB n₀ Bs W0 (W.alloc o) :=
  h.below ((Below.refl W.heap.size W).alloc (Nat.le_refl _) o) hn hB
/-- The word at a place. -/
def wAt (ws : List Nat) (i : Fin ws.length) : Nat := ws[i.1]?.getD 0
end Lum
namespace Go.Proofs.YtikogofioggmlaaGreatDoor
open Go.RowKit Go.Shelf Lum
attribute [local go_sem] Oper.semAt_some

end Go.Proofs.YtikogofioggmlaaGreatDoor
namespace Lum
open Go Go.RowKit Go.Shelf
/-- The slice (p, n, c) holds the words of m. -/
def MagAt (W : World) (p : Option Addr) (n c : Nat) (m : Nat) : Prop := NatsAt .u64 W (.slice p n c) (magL m) ∧ n = (magL m).length
theorem MagAt.below {W W' : World} {p : Option Addr} {n c m : Nat} (h : MagAt W p n c m) (hb : Below W.heap.size W W') : MagAt W' p n c m := ⟨h.1.below hb, h.2⟩
theorem MagAt.nil (W : World) : MagAt W none 0 0 0 := ⟨.inl ⟨rfl, magL_zero⟩, by rw [magL_zero]; rfl⟩
theorem NatsAt.len {k : IntKind} {W : World} {p : Option Addr} {n c : Nat} {ws : List Nat} (h : NatsAt k W (.slice p n c) ws) : n = ws.length ∧ n ≤ c := by
  rcases h with ⟨h1, h2⟩ | ⟨b, o, c', h1, h2, h3, h4, h5⟩
  · injection h1 with h6 h7 h8
    subst h2; subst h7; subst h8; exact ⟨rfl, Nat.le_refl _⟩
  · injection h1 with h6 h7 h8
    subst h7; subst h8; exact ⟨rfl, h3⟩
theorem NatsAt.take {k : IntKind} {W : World} {p : Option Addr} {n c : Nat} {ws : List Nat} (h : NatsAt k W (.slice p n c) ws) (i : Nat) (hi : i ≤ n) : NatsAt k W (.slice p i c) (ws.take i) := by
  have hl := h.len.1
  rcases h with ⟨h1, h2⟩ | ⟨b, o, c', h1, h2, h3, h4, h5⟩
  · injection h1 with h6 h7 h8
    subst h2; subst h7; subst h6; subst h8
    obtain rfl : i = 0 := by omega
    exact .inl ⟨rfl, rfl⟩
  · injection h1 with h6 h7 h8
    subst h6; subst h8
    refine .inr ⟨b, o, c, ?_, h2, ?_, h4, ?_⟩
    · rw [List.length_take, Nat.min_eq_left (by omega)]
    · rw [List.length_take]; omega
    · intro j hj
      rw [List.length_take] at hj
      rw [h5 j (by omega), List.getElem?_take, if_pos (by omega)]
theorem wAt_getD (ws : List Nat) (i : Fin ws.length) : wAt ws i = ws.getD i.1 0 := by unfold wAt; rw [List.getD_eq_getElem?_getD]
theorem mem_dnF {n k : Nat} (hk : k ≤ n) (i : Fin n) : i ∈ dnF n k ↔ n - k ≤ i.1 := by
  unfold dnF
  rw [List.mem_take_iff_getElem]
  constructor
  · rintro ⟨j, hj, e⟩
    simp [List.getElem_reverse] at e hj
    rw [← e]; simp; omega
  · intro h
    refine ⟨n - 1 - i.1, by simp; omega, ?_⟩
    simp [List.getElem_reverse]
    apply Fin.ext; simp; omega
end Lum
namespace Go.Proofs.YtikogofioggmlaaGreatDoor
open Go.RowKit Go.Shelf Lum
attribute [local go_sem] Oper.semAt_some

end Go.Proofs.YtikogofioggmlaaGreatDoor
