/-
  The cues from one backwards: the iterator.
-/
import Derived.Test.YtikogofioggmlaaGreatDoorLo
import Derived.Test.YtikogofioggmlaaGreatDoorMf
import Derived.Test.YtikogofioggmlaaGreatDoorWa
set_option linter.unusedVariables false
set_option linter.unusedSimpArgs false
namespace Lum
open Go Go.RowKit Go.Shelf
open Go.Lib (decDigits itoa)
/-- The cue that comes k steps before the n-th one. -/
def cuB (L : List CuL) (N k : Nat) : CuL := L[N - k]!
theorem cuB_at {L : List CuL} {N k : Nat} (h : N < L.length) : cuB L N k = L[N - k]'(by omega) := getElem!_pos ..
/-- A cue's value. -/
def cuV (x : CuL) : Value := .agg #[.string ⟨x.c.nu.toArray⟩, .string ⟨x.c.la.toArray⟩, .slice x.pm x.c.mv.length x.cm, .slice x.pp x.c.pt.length x.cp, .bool (x.c.bl), .bool (x.c.mk_), .int .i64 (x.c.fo), .string ⟨x.c.li.toArray⟩, .int .i64 (x.c.lo)]
/-- All the steps have come: to the first cue, or to one that blocks. -/
def BkAll (L : List CuL) (N : Nat) (xs : List Nat) : Prop := ∃ k, xs = List.range k ∧ k ≤ N + 1 ∧ (k = N + 1 ∨ ∃ j, k = j + 1 ∧ (cuB L N j).c.bl = true) ∧ ∀ j, j + 1 < k → (cuB L N j).c.bl = false
def BkSome (L : List CuL) (N : Nat) (xs : List Nat) : Prop := ∃ k, xs = List.range k ∧ k ≤ N + 1 ∧ ∀ j, j + 1 < k → (cuB L N j).c.bl = false
end Lum
namespace Go.Proofs.YtikogofioggmlaaGreatDoor
open Go.RowKit Go.Shelf Lum
attribute [local go_sem] Oper.semAt_some

set_option maxRecDepth 100000 in
set_option maxHeartbeats 4000000 in
theorem back1_in (F : Fence) (n : Nat) (hf : F.fn 55) (hro : F.round = none) (hn : 1 ≤ n) (l Bs Bn n₀ N : Nat) (num pri : Int) (L : List CuL) (p : Option Addr) (c : Nat) (hN : N < L.length) (hlen : L.length ≤ 1000000) (J Jx : List Nat → World → Prop)
    (hY : ∀ pre x W, J pre W → pre.length < N + 1 → YieldAt F (n - 1) Tryz.prog l #[cuV (cuB L N x)] W fun e W' =>
      (e = .returned (.bool true) ∧ J (pre ++ [x]) W' ∧ KeepB n₀ Bs W W') ∨ (e = .returned (.bool false) ∧ Jx (pre ++ [x]) W'))
    (W0 W : World) (hn₀ : W0.heap.size ≤ n₀) (hR : RowX encCu 9 W0 p L) (hbW : Below n₀ W0 W) (hBs : Blk W Bs 24 #[.int .i64 num, .int .i64 pri, .slice p L.length c]) (hBn : Blk W Bn 3 #[.int .i64 (N : Int)]) (h0 : J [] W) :
    CallsIn F n Tryz.prog 55 #[.func (.yield l) #[] #[], .pointer (some ⟨Bn, 0, none⟩), .pointer (some ⟨Bs, 0, none⟩)] W fun e W' => (∃ v, e = .returned v) ∧
      ((∃ ys, BkAll L N ys ∧ J ys W') ∨ (∃ pre, BkSome L N pre ∧ Jx pre W')) := by
  refine callsIn_of_wp Tryz.func55 rfl hf ?_ hro
  simp only [Tryz.ntmps55, List.size_toArray, List.length_cons, List.length_nil, Nat.reduceAdd, Nat.reduceSub, Array.replicate_succ, Array.replicate_zero, List.push_toArray, List.append_toArray, List.nil_append, List.cons_append]
  have hbn := hBn.c1.1
  obtain ⟨l0, l1, l2, lf0, lf1, lf2⟩ := hBs.c3
  gi_wp2
  gi_loopw [4] (fun i wr => ∃ k : Nat, i = .int .i64 ((N : Int) - (k : Int)) ∧ k ≤ N + 1 ∧ (∀ j, j < k → (cuB L N j).c.bl = false) ∧ J (List.range k) wr ∧ KeepB n₀ Bs W wr)
    (fun i _ => (intOf i + 1).toNat)
  case atStart => exact ⟨0, by simp, Nat.zero_le _, fun j hj => absurd hj (Nat.not_lt_zero _), h0, KeepB.refl _ _ _⟩
  case round =>
    clear l0 l1 l2 lf0 lf1 lf2
    obtain ⟨k, rfl, hk, hbl, hJs, hnx⟩ := hrel
    have HBL := Lib.hid hbl; clear hbl
    have HW : Below n₀ W0 wr := hbW.trans hnx.1
    obtain ⟨l0, l1, l2, lf0, lf1, lf2⟩ := (show Blk wr Bs 24 #[.int .i64 num, .int .i64 pri, .slice p L.length c] from hnx.2.trans hBs).c3
    by_cases hkn : k = N + 1
    · subst hkn
      have hge : ¬ (0 : Int) ≤ (N : Int) - ((N + 1 : Nat) : Int) := by omega
      gi_wp2
      go_end0
      exact ⟨⟨_, rfl⟩, .inl ⟨_, ⟨N + 1, rfl, Nat.le_refl _, .inl rfl, fun j hj => HBL.out j (by omega)⟩, hJs⟩⟩
    · have hki : N - k < L.length := by omega
      have hix : (N : Int) - (k : Int) = ((N - k : Nat) : Int) := by omega
      have hge : (0 : Int) ≤ ((N - k : Nat) : Int) := by omega
      rw [hix]
      obtain ⟨b, o, rfl, hb, hC⟩ := hR (fun h => by rw [h] at hki; exact absurd hki (Nat.not_lt_zero _))
      have hb0 := hb
      have hb := Nat.lt_of_lt_of_le hb hn₀
      obtain ⟨x, hx⟩ : ∃ x, x = cuB L N k := ⟨_, rfl⟩
      have hcell := hC (N - k) hki
      rw [← cuB_at hN, ← hx] at hcell
      have hlt : ((N - k : Nat) : Int) < (L.length : Int) := by omega
      have hlo : (N - k) * 9 < 9223372036854775807 := by omega
      have hun : IntKind.i64.wrap (((N - k : Nat) : Int) - 1) = ((N - k : Nat) : Int) - 1 := IntWalk.i64_in _ (by omega)
      have y0 : wr.cell? ⟨b, o + (N - k) * 9, none⟩ = some (.string ⟨x.c.nu.toArray⟩) := (HW.cell (p := ⟨b, o + (N - k) * 9 + 0, none⟩) hb).trans (hcell 0 _ rfl)
      have y1 : wr.cell? ⟨b, o + (N - k) * 9 + 1, none⟩ = some (.string ⟨x.c.la.toArray⟩) := (HW.cell (p := ⟨b, o + (N - k) * 9 + 1, none⟩) hb).trans (hcell 1 _ rfl)
      have y2 : wr.cell? ⟨b, o + (N - k) * 9 + 2, none⟩ = some (.slice x.pm x.c.mv.length x.cm) := (HW.cell (p := ⟨b, o + (N - k) * 9 + 2, none⟩) hb).trans (hcell 2 _ rfl)
      have y3 : wr.cell? ⟨b, o + (N - k) * 9 + 3, none⟩ = some (.slice x.pp x.c.pt.length x.cp) := (HW.cell (p := ⟨b, o + (N - k) * 9 + 3, none⟩) hb).trans (hcell 3 _ rfl)
      have y4 : wr.cell? ⟨b, o + (N - k) * 9 + 4, none⟩ = some (.bool (x.c.bl)) := (HW.cell (p := ⟨b, o + (N - k) * 9 + 4, none⟩) hb).trans (hcell 4 _ rfl)
      have y5 : wr.cell? ⟨b, o + (N - k) * 9 + 5, none⟩ = some (.bool (x.c.mk_)) := (HW.cell (p := ⟨b, o + (N - k) * 9 + 5, none⟩) hb).trans (hcell 5 _ rfl)
      have y6 : wr.cell? ⟨b, o + (N - k) * 9 + 6, none⟩ = some (.int .i64 (x.c.fo)) := (HW.cell (p := ⟨b, o + (N - k) * 9 + 6, none⟩) hb).trans (hcell 6 _ rfl)
      have y7 : wr.cell? ⟨b, o + (N - k) * 9 + 7, none⟩ = some (.string ⟨x.c.li.toArray⟩) := (HW.cell (p := ⟨b, o + (N - k) * 9 + 7, none⟩) hb).trans (hcell 7 _ rfl)
      have y8 : wr.cell? ⟨b, o + (N - k) * 9 + 8, none⟩ = some (.int .i64 (x.c.lo)) := (HW.cell (p := ⟨b, o + (N - k) * 9 + 8, none⟩) hb).trans (hcell 8 _ rfl)
      have hbr : b < wr.heap.size := Nat.lt_of_lt_of_le hb0 HW.size
      obtain ⟨fn, tmps, assign, body, hy, hY2⟩ := hY _ k wr hJs (by rw [List.length_range]; omega)
      rw [← hx] at hy
      unfold cuV at hy
      have HX := Lib.hid hx; clear hx
      gi_wp2
      refine hY2.mono ?_
      rintro e W3 (⟨rfl, hJ3, hk3⟩ | ⟨rfl, hJx3⟩)
      · have HW3 : Below n₀ W0 W3 := HW.trans hk3.1
        obtain ⟨m0, m1, m2, mf0, mf1, mf2⟩ := (show Blk W3 Bs 24 #[.int .i64 num, .int .i64 pri, .slice (some ⟨b, o, none⟩) L.length c] from hk3.2.trans (hnx.2.trans hBs)).c3
        have z4 : W3.cell? ⟨b, o + (N - k) * 9 + 4, none⟩ = some (.bool (x.c.bl)) := (HW3.cell (p := ⟨b, o + (N - k) * 9 + 4, none⟩) hb).trans (hcell 4 _ rfl)
        have hbr3 : b < W3.heap.size := Nat.lt_of_lt_of_le hb0 HW3.size
        have hj2 : J (List.range (k + 1)) W3 := by rw [List.range_succ]; exact hJ3
        have HBX : Hid ((cuB L N k).c.bl = x.c.bl) := Lib.hid (by rw [HX.out])
        by_cases hbx : x.c.bl = true
        · rw [hbx] at z4
          gi_wp2
          refine bodyPost_ret (results_none rfl _ _ _) rfl ?_
          exact ⟨⟨_, rfl⟩, .inl ⟨_, ⟨k + 1, rfl, by omega, .inr ⟨k, rfl, by rw [HBX.out]; exact hbx⟩, fun j hj => HBL.out j (by omega)⟩, hj2⟩⟩
        · have hbf : x.c.bl = false := by simpa using hbx
          rw [hbf] at z4
          gi_wp2
          go_roundw
          case rel => exact ⟨k + 1, by first | rfl | (congr 1; omega), by omega, fun j hj => by by_cases e : j = k; (subst e; rw [HBX.out]; exact hbf); exact HBL.out j (by omega), hj2, hnx.t hk3⟩
          case measure => first | (simp [intOf]; done) | (simp [intOf]; omega)
      · gi_wp2
        refine bodyPost_ret (results_none rfl _ _ _) rfl ?_
        exact ⟨⟨_, rfl⟩, .inr ⟨List.range (k + 1), ⟨k + 1, rfl, by omega, fun j hj => HBL.out j (by omega)⟩, by rw [List.range_succ]; exact hJx3⟩⟩

set_option maxHeartbeats 1000000 in
theorem back_in (F : Fence) (n : Nat) (hf : F.fn 39) (hro : F.round = none) (num pri : Int) (L : List CuL) (p : Option Addr) (c N : Nat) (w : World) :
    CallsIn F n Tryz.prog 39 #[.agg #[.int .i64 num, .int .i64 pri, .slice p L.length c], .int .i64 (N : Int)] w fun e w' => e = .returned (.func (.func 55) #[] #[.pointer (some ⟨w.heap.size + 1, 0, none⟩), .pointer (some ⟨w.heap.size, 0, none⟩)]) ∧ w' = (w.alloc (.cells #[.int .i64 num, .int .i64 pri, .slice p L.length c] 24)).alloc (.cells #[.int .i64 (N : Int)] 3) := by
  refine callsIn_of_wp Tryz.func39 rfl hf ?_ hro
  simp only [Tryz.ntmps39, List.size_toArray, List.length_cons, List.length_nil, Nat.reduceAdd, Nat.reduceSub, Array.replicate_succ, Array.replicate_zero, List.push_toArray, List.append_toArray, List.nil_append, List.cons_append]
  gi_wp2
  go_ret
  exact ⟨rfl, rfl⟩

theorem back_stops (F : Fence) (n : Nat) (hf : F.fn 55) (hro : F.round = none) (hn : 1 ≤ n) (Bs Bn n₀ N : Nat) (num pri : Int) (L : List CuL) (p : Option Addr) (c : Nat) (hN : N < L.length) (hlen : L.length ≤ 1000000)
    (W0 w : World) (hn₀ : W0.heap.size ≤ n₀) (hnw : n₀ ≤ w.heap.size) (hR : RowX encCu 9 W0 p L) (hb0 : Below n₀ W0 w) (hBs : Blk w Bs 24 #[.int .i64 num, .int .i64 pri, .slice p L.length c]) (hBn : Blk w Bn 3 #[.int .i64 (N : Int)]) :
    SeqStopsK F n Tryz.prog 55 #[.pointer (some ⟨Bn, 0, none⟩), .pointer (some ⟨Bs, 0, none⟩)] (fun x : Nat => #[cuV (cuB L N x)]) (KeepB n₀ Bs) (BkAll L N) (BkSome L N) (N + 1) w := fun l J Jx W hW _ _ hY h0 =>
  back1_in F n hf hro hn l Bs Bn n₀ N num pri L p c hN hlen J Jx hY W0 W hn₀ hR (hb0.trans (hW.mono hnw)) (hBs.keep hW) (hBn.keep hW) h0
end Go.Proofs.YtikogofioggmlaaGreatDoor
