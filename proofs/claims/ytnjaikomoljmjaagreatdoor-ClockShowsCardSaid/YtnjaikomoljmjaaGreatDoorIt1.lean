/-
  The iterator (magnitude).down: its contract.
-/
import Derived.RangeFuncNested
import Derived.RangeFuncBound
import Derived.RangeFuncCalls
import Derived.RangeFuncLeaves
import Derived.RangeFuncBox
import Derived.Shelf.Abstract
import Derived.WalkKit
import Derived.OwnWalkIn
import Derived.TacticsInMore
import Derived.LoopNIn
import Derived.LoopIn
import Derived.Maps.AppendAt
import Derived.Test.YtnjaikomoljmjaaGreatDoorOwn
set_option linter.unusedVariables false
set_option linter.unusedSimpArgs false
namespace Lum
open Go Go.RowKit Go.Shelf
/-- The places in the order in which down yields them: the first k. -/
def dnF (n k : Nat) : List (Fin n) := (List.finRange n).reverse.take k
theorem dnF_succ (n k : Nat) (h : k < n) : dnF n (k + 1) = dnF n k ++ [⟨n - 1 - k, by omega⟩] := by
  unfold dnF
  rw [List.take_succ_eq_append_getElem (by simpa using h)]
  congr 1
  simp [List.getElem_reverse]
theorem dnF_length (n k : Nat) (h : k ≤ n) : (dnF n k).length = k := by simp [dnF]; omega
theorem dnF_zero (n : Nat) : dnF n 0 = [] := by simp [dnF]
/-- What comes behind the first k, is the next one. -/
theorem dnF_snoc {n : Nat} {pre : List (Fin n)} {x : Fin n} (h : pre ++ [x] = dnF n (pre.length + 1)) (hl : pre.length < n) : pre = dnF n pre.length ∧ x.1 + pre.length + 1 = n := by
  rw [dnF_succ n _ hl] at h
  obtain ⟨h1, h2⟩ := List.append_inj' h rfl
  refine ⟨h1, ?_⟩
  have : x = ⟨n - 1 - pre.length, by omega⟩ := by simpa using h2
  rw [this]; simp; omega
/-- What a round that goes on keeps: whatever lay below n₀, and block Bs. -/
def KeepB (n₀ Bs : Nat) (W W' : World) : Prop := Below n₀ W W' ∧ W'.heap[Bs]? = W.heap[Bs]?
theorem KeepB.refl (n₀ Bs : Nat) (W : World) : KeepB n₀ Bs W W := ⟨Below.refl _ _, rfl⟩
theorem KeepB.t {n₀ Bs : Nat} {A B C : World} (h : KeepB n₀ Bs A B) (k : KeepB n₀ Bs B C) : KeepB n₀ Bs A C := ⟨h.1.trans k.1, k.2.trans h.2⟩
theorem KeepB.b {n₀ Bs : Nat} {w : World} (hn : n₀ ≤ w.heap.size) (hB : Bs < w.heap.size) (W : World) (l : Nat) (o o' : Obj) (hl : w.heap.size ≤ l) (h : W.heap[l]? = some o) (h1 : o.isCells = false) (h2 : o.isWalk = false) : KeepB n₀ Bs W (W.putObj l o') :=
  ⟨belowK_b hn W l o o' hl h h1 h2, World.putObj_heap_other (by omega)⟩
theorem KeepB.setCell {n₀ Bs : Nat} {W0 W : World} (h : KeepB n₀ Bs W0 W) {p : Addr} (hp : n₀ ≤ p.block) (hne : Bs ≠ p.block) (u : Value) : KeepB n₀ Bs W0 (W.setCell p u) :=
  ⟨h.1.setCell hp u, (Below.heap_setCell _ _ _ _ hne).trans h.2⟩
theorem KeepB.below {n₀ Bs m : Nat} {W0 W W' : World} (h : KeepB n₀ Bs W0 W) (hb : Below m W W') (hn : n₀ ≤ m) (hB : Bs < m) : KeepB n₀ Bs W0 W' :=
  ⟨h.1.trans (hb.mono hn), (hb.block _ hB).trans h.2⟩
theorem KeepB.alloc {n₀ Bs : Nat} {W0 W : World} (h : KeepB n₀ Bs W0 W) (o : Obj) (hn : n₀ ≤ W.heap.size) (hB : Bs < W.heap.size) : KeepB n₀ Bs W0 (W.alloc o) :=
  h.below ((Below.refl W.heap.size W).alloc (Nat.le_refl _) o) hn hB
/-- The word at a place. -/
def wAt (ws : List Nat) (i : Fin ws.length) : Nat := ws[i.1]?.getD 0
end Lum
namespace Go.Proofs.YtnjaikomoljmjaaGreatDoor
open Go.RowKit Go.Shelf Lum
attribute [local go_sem] Oper.semAt_some

set_option maxRecDepth 100000 in
set_option maxHeartbeats 2000000 in
theorem down1_in (F : Fence) (n : Nat) (hf : F.fn 214) (hro : F.round = none) (hn : 1 ≤ n) (l Bs n₀ b off cap : Nat) (ws : List Nat) (hlen : ws.length ≤ 1000000000) (hb : b < n₀) (J Jx : List (Fin ws.length) → World → Prop)
    (hY : ∀ pre x W, J pre W → pre.length < ws.length → YieldAt F (n - 1) Tryz.prog l #[.int .i64 (x.1 : Int), .int .u64 (wAt ws x : Int)] W fun e W' =>
      (e = .returned (.bool true) ∧ J (pre ++ [x]) W' ∧ KeepB n₀ Bs W W') ∨ (e = .returned (.bool false) ∧ Jx (pre ++ [x]) W'))
    (W : World) (hBs : Boxed W Bs 140 (.slice (some ⟨b, off, none⟩) ws.length cap)) (hc : ∀ j, j < ws.length → W.cell? ⟨b, off + j, none⟩ = some (.int .u64 (ws[j]?.getD 0 : Nat))) (h0 : J [] W) :
    CallsIn F n Tryz.prog 214 #[.func (.yield l) #[] #[], .pointer (some ⟨Bs, 0, none⟩)] W fun e W' => (∃ v, e = .returned v) ∧
      ((∃ ys, ys = dnF ws.length ws.length ∧ J ys W') ∨ (∃ pre, (∃ k, k ≤ ws.length ∧ pre = dnF ws.length k) ∧ Jx pre W')) := by
  refine callsIn_of_wp Tryz.func214 rfl hf ?_ hro
  simp only [Tryz.ntmps214, List.size_toArray, List.length_cons, List.length_nil, Nat.reduceAdd, Nat.reduceSub, Array.replicate_succ, Array.replicate_zero, List.push_toArray, List.append_toArray, List.nil_append, List.cons_append]
  have hBc := hBs.cell
  gi_wp2
  gi_loopw [3] (fun i wr => ∃ k r : Nat, Hid (k + r = ws.length) ∧ i = .int .i64 ((r : Int) - 1) ∧ J (dnF ws.length k) wr ∧ KeepB n₀ Bs W wr)
    (fun i _ => (intOf i + 1).toNat)
  case atStart => exact ⟨0, ws.length, Lib.hid (by omega), rfl, h0, KeepB.refl _ _ _⟩
  case round =>
    obtain ⟨k, r, hk, rfl, hJs, hnx⟩ := hrel
    cases r with
    | zero =>
      have hkl : k = ws.length := hk.out
      have e : ((0 : Nat) : Int) - 1 = -1 := rfl
      rw [e]
      gi_wp2
      go_end0
      exact ⟨⟨_, rfl⟩, .inl ⟨_, rfl, hkl ▸ hJs⟩⟩
    | succ m =>
      have hm : m < ws.length := by have := hk.out; omega
      have e : ((m + 1 : Nat) : Int) - 1 = m := by omega
      rw [e]
      have hcx : wr.cell? ⟨b, off + m, none⟩ = some (.int .u64 (ws[m]?.getD 0 : Nat)) := (hnx.1.cell (p := ⟨b, off + m, none⟩) hb).trans (hc m hm)
      have hbx : wr.cell? ⟨Bs, 0, none⟩ = some (.slice (some ⟨b, off, none⟩) ws.length cap) := Boxed.cell (hnx.2.trans hBs)
      have hsn : dnF ws.length (k + 1) = dnF ws.length k ++ [⟨m, hm⟩] := by
        rw [dnF_succ _ _ (by have := hk.out; omega)]; congr 3; have := hk.out; omega
      obtain ⟨fn, tmps, assign, body, hy, hR⟩ := hY _ ⟨m, hm⟩ wr hJs (by rw [dnF_length _ _ (by have := hk.out; omega)]; have := hk.out; omega)
      dsimp only at hy
      change wr.cell? _ = some (.int .u64 (wAt ws ⟨m, hm⟩ : Nat)) at hcx
      generalize wAt ws ⟨m, hm⟩ = x at *
      have HSN := Lib.hid hsn; clear hsn
      gi_wp2
      refine hR.mono ?_
      rintro e W3 (⟨rfl, hJ3, hk3⟩ | ⟨rfl, hJx3⟩)
      · gi_wp2
        go_roundw
        case rel => exact ⟨k + 1, m, Lib.hid (by have := hk.out; omega), rfl, by rw [HSN.out]; exact hJ3, hnx.t hk3⟩
        case measure => simp [intOf]
      · gi_wp2
        refine bodyPost_ret (results_none rfl _ _ _) rfl ?_
        exact ⟨⟨_, rfl⟩, .inr ⟨_, ⟨k + 1, by have := hk.out; omega, HSN.out.symm⟩, hJx3⟩⟩

set_option maxRecDepth 100000 in
set_option maxHeartbeats 1000000 in
theorem down1_nil_in (F : Fence) (n : Nat) (hf : F.fn 214) (hro : F.round = none) (l Bs : Nat) (J : List (Fin 0) → World → Prop) (W : World) (hBs' : Boxed W Bs 140 (.slice none 0 0)) (h0 : J [] W) :
    CallsIn F n Tryz.prog 214 #[.func (.yield l) #[] #[], .pointer (some ⟨Bs, 0, none⟩)] W fun e W' => (∃ v, e = .returned v) ∧ J [] W' := by
  refine callsIn_of_wp Tryz.func214 rfl hf ?_ hro
  simp only [Tryz.ntmps214, List.size_toArray, List.length_cons, List.length_nil, Nat.reduceAdd, Nat.reduceSub, Array.replicate_succ, Array.replicate_zero, List.push_toArray, List.append_toArray, List.nil_append, List.cons_append]
  have hBs := hBs'.cell
  gi_wp2
  gi_loopw [3] (fun i wr => i = .int .i64 (-1) ∧ J [] wr) (fun _ _ => 0)
  case atStart => exact ⟨rfl, h0⟩
  case round =>
    obtain ⟨rfl, hJs⟩ := hrel
    gi_wp2
    go_end0
    exact ⟨⟨_, rfl⟩, hJs⟩

set_option maxHeartbeats 1000000 in
theorem down_in (F : Fence) (n : Nat) (hf : F.fn 197) (hro : F.round = none) (a : Option Addr) (len cap : Nat) (w : World) :
    CallsIn F n Tryz.prog 197 #[.slice a len cap] w fun e w' => e = .returned (.func (.func 214) #[] #[.pointer (some ⟨w.heap.size, 0, none⟩)]) ∧ w' = w.alloc (.cells #[.slice a len cap] 140) := by
  refine callsIn_of_wp Tryz.func197 rfl hf ?_ hro
  simp only [Tryz.ntmps197, List.size_toArray, List.length_cons, List.length_nil, Nat.reduceAdd, Nat.reduceSub, Array.replicate_succ, Array.replicate_zero, List.push_toArray, List.append_toArray, List.nil_append, List.cons_append]
  gi_wp2
  go_ret
  exact ⟨rfl, rfl⟩

/-- What the loop over down is handed: all the words from the highest one on, or the first k of them. -/
theorem down_stops (F : Fence) (n : Nat) (hf : F.fn 214) (hro : F.round = none) (hn : 1 ≤ n) (Bs n₀ : Nat) (sv : Value) (ws : List Nat) (hlen : ws.length ≤ 1000000000) (w : World) (hn₀ : n₀ ≤ w.heap.size)
    (hc : Boxed w Bs 140 sv) (W0 : World) (hI : NatsAt .u64 W0 sv ws) (hW0 : W0.heap.size = n₀) (hb0 : Below n₀ W0 w) :
    SeqStopsK F n Tryz.prog 214 #[.pointer (some ⟨Bs, 0, none⟩)] (fun x : Fin ws.length => #[Value.int .i64 (x.1 : Int), Value.int .u64 (wAt ws x : Int)]) (KeepB n₀ Bs) (fun ys => ys = dnF ws.length ws.length)
      (fun pre => ∃ k, k ≤ ws.length ∧ pre = dnF ws.length k) ws.length w := fun l J Jx W hW _ _ hY h0 => by
  have hc' : Boxed W Bs 140 sv := (hW.block Bs hc.lt).trans hc
  have hbw := hb0.trans (hW.mono hn₀)
  subst hW0
  rcases hI with ⟨rfl, rfl⟩ | ⟨b, off, cap, rfl, hb, h1, h2, hcs⟩
  · exact (down1_nil_in F n hf hro l Bs J W hc' h0).mono fun e W' ⟨he, hj⟩ => ⟨he, .inl ⟨_, rfl, hj⟩⟩
  · exact down1_in F n hf hro hn l Bs _ b off cap ws hlen hb J Jx hY W hc' (fun j hj => (hbw.cell (p := ⟨b, off + j, none⟩) hb).trans (hcs j hj)) h0
end Go.Proofs.YtnjaikomoljmjaaGreatDoor
