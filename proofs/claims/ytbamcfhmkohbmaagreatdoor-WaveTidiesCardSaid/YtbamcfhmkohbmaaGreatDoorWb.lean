/-
  Arguments of any make, read again in a world that leaves the old memory as it was. Points handed in, opened.
-/
import Derived.Test.YtbamcfhmkohbmaaGreatDoorRow
import Derived.Carry
import Derived.WideKeyArgs
import Derived.Test.YtbamcfhmkohbmaaGreatDoorWa
import Derived.Deep.SlicePairs
set_option linter.unusedVariables false
set_option linter.unusedSimpArgs false
namespace Go.Proofs.YtbamcfhmkohbmaaGreatDoor
open Go.ChangeShapes Go.WideShapes Go.ChangeAt Go.RowKit Go.Joins Lum
theorem trodAll_stays {H : Type} {enc : TypeId × Value → H} {P : Program} (hl : laidOutB P = true) {W W' : World} {sp' : Nat → Bool} :
    ∀ {ts : List TypeId} {vs : List Value} {ds : List (DataW H)} {ps : List MemPlace}, (∀ t ∈ ts, P.readableRec t = true ∧ t < P.types.size) → DataW.TrodAll enc P W 0 (fun _ => true) true ts vs ds ps →
      (∀ p ∈ ps, W.sameAt W' p) → (∀ p ∈ ps, sp' p.block = true) → DataW.TrodAll enc P W' 0 sp' true ts vs ds ps
  | [], _, _, _, _, h, _, _ => by
    obtain ⟨rfl, rfl, rfl⟩ := trodAll_nil h
    exact trodAll_mk0
  | t :: ts, _, _, _, hT, h, hs, hp => by
    obtain ⟨v, vs', d, ds', p, q, rfl, rfl, rfl, h1, h2⟩ := trodAll_cons h
    exact trodAll_cons_mk (Go.WideElems.Trod_stays hl (hT t (List.mem_cons_self)).1 (hT t (List.mem_cons_self)).2 h1 (fun x hx => hs x (List.mem_append_left _ hx)) (fun x hx => hp x (List.mem_append_left _ hx)))
      (trodAll_stays hl (fun t' h' => hT t' (List.mem_cons_of_mem _ h')) h2 (fun x hx => hs x (List.mem_append_right _ hx)) (fun x hx => hp x (List.mem_append_right _ hx)))
end Go.Proofs.YtbamcfhmkohbmaaGreatDoor
namespace Go.Proofs.YtbamcfhmkohbmaaGreatDoor
open Go.RowKit Go.Shelf Lum Go.ChangeShapes Go.WideShapes Go.ChangeAt Go.Joins
attribute [local go_sem] bs_get bs_extract_end bs_extract_from bs_extract bs_append

theorem wf_i8 {n : Int} (h : (Lit.int .i8 n).wf = true) : -128 ≤ n ∧ n ≤ 127 := by
  simpa [Lit.wf, IntKind.min, IntKind.max, IntKind.signed, IntKind.bits] using h
section
variable {H : Type} {enc : TypeId × Value → H} {W : World} {r : Reach} {b0 base : Nat} {spare : Nat → Bool} {held : Bool} {v : Value} {d : DataW H} {p : List MemPlace}
set_option maxRecDepth 100000 in
theorem open_points (hv : Value.okWide Tryz.prog W r b0 22 v) (h : DataW.Trod enc Tryz.prog W base spare held 22 v d p) :
    ∃ l : List (Int × Int), PtsAt W v l ∧ (∃ p n c, v = .slice p n c ∧ n = l.length ∧ n ≤ c) ∧ l.length ≤ maxLen ∧ (∀ q ∈ l, (-9223372036854775808 ≤ q.1 ∧ q.1 ≤ 9223372036854775807) ∧ (-9223372036854775808 ≤ q.2 ∧ q.2 ≤ 9223372036854775807)) := by
  obtain ⟨a0, len, cap, rfl⟩ := okWide_slice Tryz.underlying22 hv
  obtain ⟨fuel, hf⟩ := h
  rcases Go.Deep.open_slice_pairs (t := 22) (e := 33) Tryz.underlying22 Tryz.underlying33 (by kernel_rfl) rfl rfl (by kernel_rfl) (by kernel_rfl) hf with ⟨hcs, -⟩ | ⟨a, len', cap', m, n, V0, V1, D0, D1, P0, P1, hcs, _, hl, hm, hmm, _, hcell⟩
  · simp [Value.cells] at hcs
    obtain ⟨rfl, rfl, rfl⟩ := hcs
    exact ⟨[], ⟨none, 0, rfl, fun h => absurd rfl h⟩, ⟨none, 0, 0, rfl, rfl, Nat.le_refl _⟩, by simp, fun q hq => by cases hq⟩
  · simp [Value.cells] at hcs
    obtain ⟨rfl, rfl, rfl⟩ := hcs
    have hlm : len ≤ m := by rw [hmm]; split <;> omega
    have key : ∀ i, ∃ q : Int × Int, i < m → V0 i = .int .i64 q.1 ∧ V1 i = .int .i64 q.2 ∧ ((-9223372036854775808 ≤ q.1 ∧ q.1 ≤ 9223372036854775807) ∧ (-9223372036854775808 ≤ q.2 ∧ q.2 ≤ 9223372036854775807)) := by
      intro i
      by_cases hi : i < m
      · obtain ⟨-, -, h2, h3⟩ := hcell i hi
        obtain ⟨x, e0, _, c0⟩ := DataW.trod_int (t := 3) Tryz.underlying3 h2
        obtain ⟨y, e1, _, c1⟩ := DataW.trod_int (t := 3) Tryz.underlying3 h3
        refine ⟨(x, y), fun _ => ⟨(List.cons.inj e0).1, (List.cons.inj e1).1, ?_, ?_⟩⟩
        · exact wf_i64 c0
        · exact wf_i64 c1
      · exact ⟨(0, 0), fun h => absurd h hi⟩
    obtain ⟨q, hq⟩ := Classical.axiomOfChoice key
    have hlen : ((List.range len).map q).length = len := by simp
    have hget : ∀ i, i < len → pX ((List.range len).map q) i = (q i).1 ∧ pY ((List.range len).map q) i = (q i).2 := by
      intro i hi
      unfold pX pY
      simp [hi]
    refine ⟨(List.range len).map q, ⟨some a, cap, by rw [hlen], fun hne => ?_⟩, ⟨some a, len, cap, rfl, hlen.symm, hl⟩, by rw [hlen]; omega, ?_⟩
    · have h0 : 0 < len := by
        rcases Nat.eq_zero_or_pos len with h | h
        · subst h; exact absurd rfl hne
        · exact h
      obtain ⟨b, off, spot⟩ := a
      have hspot : spot = none := by have := (hcell 0 (by omega)).1; rw [Nat.zero_mul] at this; simpa [Addr.add] using World.cell?_spot this
      subst hspot
      have hc : ∀ i, i < len → W.cell? ⟨b, off + i * 2, none⟩ = some (.int .i64 (q i).1) ∧ W.cell? ⟨b, off + i * 2 + 1, none⟩ = some (.int .i64 (q i).2) := by
        intro i hi
        obtain ⟨h0, h1, -, -⟩ := hcell i (by omega)
        obtain ⟨e0, e1, -⟩ := hq i (by omega)
        rw [add_plain, e0] at h0
        rw [add_plain, e1] at h1
        exact ⟨h0, by rw [Nat.add_assoc]; exact h1⟩
      refine ⟨b, off, rfl, ?_, fun i hi => ?_⟩
      · exact World.block_lt_of_cell? W ⟨b, off + 0 * 2, none⟩ (hc 0 h0).1
      · rw [hlen] at hi
        rw [(hget i hi).1, (hget i hi).2]
        exact hc i hi
    · intro x hx
      rw [List.mem_map] at hx
      obtain ⟨i, hi, rfl⟩ := hx
      exact (hq i (by have := List.mem_range.1 hi; omega)).2.2
end
end Go.Proofs.YtbamcfhmkohbmaaGreatDoor
