/-
  Arguments of any make, read again in a world that leaves the old memory as it was. Points handed in, opened. Effects and running effects handed in, opened. Arrays of uint16 handed in, opened.
-/
import Derived.Test.YtbamcfhmkohbmaaGreatDoorRow
import Derived.Carry
import Derived.WideKeyArgs
import Derived.Test.YtbamcfhmkohbmaaGreatDoorWa
import Derived.Deep.SlicePairs
import Derived.Test.YtbamcfhmkohbmaaGreatDoorYb
import Derived.Deep.Slices
import Derived.Laws.IdiomArrays
set_option linter.unusedVariables false
set_option linter.unusedSimpArgs false
namespace Go.Proofs.YtbamcfhmkohbmaaGreatDoor
open Go.ChangeShapes Go.WideShapes Go.ChangeAt Go.RowKit Go.Joins Lum
theorem trodAll_stays {H : Type} {enc : TypeId × Value → H} {P : Program} (hl : laidOutB P = true) {W W' : World} {sp' : Nat → Bool} :
    ∀ {ts : List TypeId} {vs : List Value} {ds : List (DataW H)} {ps : List MemPlace}, (∀ t ∈ ts, P.readableRec t = true ∧ t < P.types.size) → DataW.TrodAll enc P W 0 (fun _ => true) true ts vs ds ps →
      (∀ p ∈ ps, W.sameAt W' p) → (∀ p ∈ ps, sp' p.block = true) → DataW.TrodAll enc P W' 0 sp' true ts vs ds ps
  | [], _, _, _, _, h, _, _ => by
    obtain ⟨rfl, rfl, rfl⟩ := trodAll_nil h
    exact trodAll_mk0
  | t :: ts, _, _, _, hT, h, hs, hp => by
    obtain ⟨v, vs', d, ds', p, q, rfl, rfl, rfl, h1, h2⟩ := trodAll_cons h
    exact trodAll_cons_mk (Go.WideElems.Trod_stays hl (hT t (List.mem_cons_self)).1 (hT t (List.mem_cons_self)).2 h1 (fun x hx => hs x (List.mem_append_left _ hx)) (fun x hx => hp x (List.mem_append_left _ hx)))
      (trodAll_stays hl (fun t' h' => hT t' (List.mem_cons_of_mem _ h')) h2 (fun x hx => hs x (List.mem_append_right _ hx)) (fun x hx => hp x (List.mem_append_right _ hx)))
end Go.Proofs.YtbamcfhmkohbmaaGreatDoor
namespace Go.Proofs.YtbamcfhmkohbmaaGreatDoor
open Go.RowKit Go.Shelf Lum Go.ChangeShapes Go.WideShapes Go.ChangeAt Go.Joins
attribute [local go_sem] bs_get bs_extract_end bs_extract_from bs_extract bs_append

theorem wf_i8 {n : Int} (h : (Lit.int .i8 n).wf = true) : -128 ≤ n ∧ n ≤ 127 := by
  simpa [Lit.wf, IntKind.min, IntKind.max, IntKind.signed, IntKind.bits] using h
section
variable {H : Type} {enc : TypeId × Value → H} {W : World} {r : Reach} {b0 base : Nat} {spare : Nat → Bool} {held : Bool} {v : Value} {d : DataW H} {p : List MemPlace}
set_option maxRecDepth 100000 in
theorem open_points (hv : Value.okWide Tryz.prog W r b0 22 v) (h : DataW.Trod enc Tryz.prog W base spare held 22 v d p) :
    ∃ l : List (Int × Int), PtsAt W v l ∧ (∃ p n c, v = .slice p n c ∧ n = l.length ∧ n ≤ c) ∧ l.length ≤ maxLen ∧ (∀ q ∈ l, (-9223372036854775808 ≤ q.1 ∧ q.1 ≤ 9223372036854775807) ∧ (-9223372036854775808 ≤ q.2 ∧ q.2 ≤ 9223372036854775807)) := by
  obtain ⟨a0, len, cap, rfl⟩ := okWide_slice Tryz.underlying22 hv
  obtain ⟨fuel, hf⟩ := h
  rcases Go.Deep.open_slice_pairs (t := 22) (e := 33) Tryz.underlying22 Tryz.underlying33 (by kernel_rfl) rfl rfl (by kernel_rfl) (by kernel_rfl) hf with ⟨hcs, -⟩ | ⟨a, len', cap', m, n, V0, V1, D0, D1, P0, P1, hcs, _, hl, hm, hmm, _, hcell⟩
  · simp [Value.cells] at hcs
    obtain ⟨rfl, rfl, rfl⟩ := hcs
    exact ⟨[], ⟨none, 0, rfl, fun h => absurd rfl h⟩, ⟨none, 0, 0, rfl, rfl, Nat.le_refl _⟩, by simp, fun q hq => by cases hq⟩
  · simp [Value.cells] at hcs
    obtain ⟨rfl, rfl, rfl⟩ := hcs
    have hlm : len ≤ m := by rw [hmm]; split <;> omega
    have key : ∀ i, ∃ q : Int × Int, i < m → V0 i = .int .i64 q.1 ∧ V1 i = .int .i64 q.2 ∧ ((-9223372036854775808 ≤ q.1 ∧ q.1 ≤ 9223372036854775807) ∧ (-9223372036854775808 ≤ q.2 ∧ q.2 ≤ 9223372036854775807)) := by
      intro i
      by_cases hi : i < m
      · obtain ⟨-, -, h2, h3⟩ := hcell i hi
        obtain ⟨x, e0, _, c0⟩ := DataW.trod_int (t := 3) Tryz.underlying3 h2
        obtain ⟨y, e1, _, c1⟩ := DataW.trod_int (t := 3) Tryz.underlying3 h3
        refine ⟨(x, y), fun _ => ⟨(List.cons.inj e0).1, (List.cons.inj e1).1, ?_, ?_⟩⟩
        · exact wf_i64 c0
        · exact wf_i64 c1
      · exact ⟨(0, 0), fun h => absurd h hi⟩
    obtain ⟨q, hq⟩ := Classical.axiomOfChoice key
    have hlen : ((List.range len).map q).length = len := by simp
    have hget : ∀ i, i < len → pX ((List.range len).map q) i = (q i).1 ∧ pY ((List.range len).map q) i = (q i).2 := by
      intro i hi
      unfold pX pY
      simp [hi]
    refine ⟨(List.range len).map q, ⟨some a, cap, by rw [hlen], fun hne => ?_⟩, ⟨some a, len, cap, rfl, hlen.symm, hl⟩, by rw [hlen]; omega, ?_⟩
    · have h0 : 0 < len := by
        rcases Nat.eq_zero_or_pos len with h | h
        · subst h; exact absurd rfl hne
        · exact h
      obtain ⟨b, off, spot⟩ := a
      have hspot : spot = none := by have := (hcell 0 (by omega)).1; rw [Nat.zero_mul] at this; simpa [Addr.add] using World.cell?_spot this
      subst hspot
      have hc : ∀ i, i < len → W.cell? ⟨b, off + i * 2, none⟩ = some (.int .i64 (q i).1) ∧ W.cell? ⟨b, off + i * 2 + 1, none⟩ = some (.int .i64 (q i).2) := by
        intro i hi
        obtain ⟨h0, h1, -, -⟩ := hcell i (by omega)
        obtain ⟨e0, e1, -⟩ := hq i (by omega)
        rw [add_plain, e0] at h0
        rw [add_plain, e1] at h1
        exact ⟨h0, by rw [Nat.add_assoc]; exact h1⟩
      refine ⟨b, off, rfl, ?_, fun i hi => ?_⟩
      · exact World.block_lt_of_cell? W ⟨b, off + 0 * 2, none⟩ (hc 0 h0).1
      · rw [hlen] at hi
        rw [(hget i hi).1, (hget i hi).2]
        exact hc i hi
    · intro x hx
      rw [List.mem_map] at hx
      obtain ⟨i, hi, rfl⟩ := hx
      exact (hq i (by have := List.mem_range.1 hi; omega)).2.2
end
end Go.Proofs.YtbamcfhmkohbmaaGreatDoor
namespace Go.Proofs.YtbamcfhmkohbmaaGreatDoor


open Go.RowKit Go.Shelf Lum Go.ChangeShapes Go.WideShapes Go.ChangeAt Go.Joins
/-- A slice whose elements are read by R. -/
theorem open_els {α : Type} {P : Program} {H : Type} {enc : TypeId × Value → H} {W : World} {base : Nat} {spare : Nat → Bool} {held : Bool} {t e : TypeId} (ht : P.underlying t = some (.slice e)) (k : Nat) (hk : P.cellsOf e = k) (hk0 : 0 < k) (dd : α) (R : List Value → α → Prop)
    (hin : ∀ n cs x, DataW.trod enc P W base spare held n e cs = some x → ∃ a, R cs a) {fuel : Nat} {cs : List Value} {x : DataW H × List MemPlace} (h : DataW.trod enc P W base spare held fuel t cs = some x) :
    ∃ (l : List α) (p : Option Addr) (c : Nat), cs = [.slice p l.length c] ∧ l.length ≤ c ∧ c ≤ maxLen ∧ (l ≠ [] → ∃ b o, p = some ⟨b, o, none⟩ ∧ b < W.heap.size ∧ ∀ i, i < l.length → ∃ cs', R cs' (l[i]?.getD dd) ∧ ∀ j v, cs'[j]? = some v → W.cell? ⟨b, o + i * k + j, none⟩ = some v) := by
  rcases Go.Deep.open_slice ht h with ⟨rfl, -⟩ | ⟨a, len, cap, m, n, D, Pl, rfl, hb, hl, hm, hmm, -, hx⟩
  · exact ⟨[], none, 0, rfl, Nat.le_refl _, by simp, fun h => absurd rfl h⟩
  · have hlm : len ≤ m := by rw [hmm]; split <;> omega
    rw [hk] at hx
    have key : ∀ i, ∃ q : α, i < m → ∃ cs', R cs' q ∧ 0 < cs'.length ∧ ∀ j v, cs'[j]? = some v → W.cell? ((a.add (i * k)).add j) = some v := by
      intro i
      by_cases hi : i < m
      · obtain ⟨cs', h1, h2⟩ := hx i hi
        obtain ⟨q, hq⟩ := hin _ _ _ h2
        obtain ⟨-, hcl, hat⟩ := World.cells?_some h1
        refine ⟨q, fun _ => ⟨cs', hq, by omega, fun j v hj => ?_⟩⟩
        have hjl := (List.getElem?_eq_some_iff.1 hj).1
        rw [hat j (by omega), hj]
      · exact ⟨dd, fun h => absurd h hi⟩
    obtain ⟨q, hq⟩ := Classical.axiomOfChoice key
    have hlen : ((List.range len).map q).length = len := by simp
    refine ⟨(List.range len).map q, some a, cap, by rw [hlen], by rw [hlen]; exact hl, hm, fun hne => ?_⟩
    have h0 : 0 < len := by
      rcases Nat.eq_zero_or_pos len with h | h
      · subst h; exact absurd rfl hne
      · exact h
    obtain ⟨b, off, spot⟩ := a
    have hspot : spot = none := by
      obtain ⟨cs', -, h2, h3⟩ := hq 0 (by omega)
      have := h3 0 _ (List.getElem?_eq_getElem h2)
      rw [Nat.zero_mul] at this
      simpa [Addr.add] using World.cell?_spot this
    subst hspot
    refine ⟨b, off, rfl, ?_, fun i hi => ?_⟩
    · obtain ⟨cs', -, h2, h3⟩ := hq 0 (by omega)
      have := h3 0 _ (List.getElem?_eq_getElem h2)
      rw [add_plain, add_plain] at this
      exact World.block_lt_of_cell? W _ this
    · rw [hlen] at hi
      obtain ⟨cs', h1, -, h3⟩ := hq i (by omega)
      refine ⟨cs', ?_, fun j v hj => ?_⟩
      · simpa [hi] using h1
      · have := h3 j v hj
        rw [add_plain, add_plain] at this
        exact this
section
variable {H : Type} {enc : TypeId × Value → H} {W : World} {base : Nat} {spare : Nat → Bool} {held : Bool}
set_option maxRecDepth 100000 in
theorem point_in {fuel : Nat} {cs : List Value} {x : DataW H × List MemPlace} (h : DataW.trod enc Tryz.prog W base spare held fuel 33 cs = some x) :
    ∃ q : Int × Int, cs = [.int .i64 q.1, .int .i64 q.2] := by
  obtain ⟨xs, n, -, -, hl, hxl, hf⟩ := DataW.trod_struct Tryz.underlying33 h
  have kc : cs.length = 2 := hl.trans (by kernel_rfl)
  match cs, kc with
  | [c0, c1], _ =>
    match xs, hxl with
    | [y0, y1], _ =>
      have k0 : Tryz.prog.cellsOf 3 = 1 := by kernel_rfl
      have h0 : DataW.trod enc Tryz.prog W base spare held n 3 [c0] = some y0 := by
        have h : DataW.trod enc Tryz.prog W base spare held n 3 (List.take (Tryz.prog.cellsOf 3) (List.drop 0 [c0, c1])) = [y0, y1][0]? := hf 0 _ rfl
        rw [k0] at h
        exact h
      have k1 : Tryz.prog.cellsOf 3 = 1 := by kernel_rfl
      have h1 : DataW.trod enc Tryz.prog W base spare held n 3 [c1] = some y1 := by
        have h : DataW.trod enc Tryz.prog W base spare held n 3 (List.take (Tryz.prog.cellsOf 3) (List.drop 1 [c0, c1])) = [y0, y1][1]? := hf 1 _ rfl
        rw [k1] at h
        exact h
      obtain ⟨a, e0, -, w0⟩ := DataW.trod_int Tryz.underlying3 h0
      obtain rfl := (List.cons.inj e0).1
      obtain ⟨b, e1, -, w1⟩ := DataW.trod_int Tryz.underlying3 h1
      obtain rfl := (List.cons.inj e1).1
      exact ⟨(a, b), rfl⟩

theorem points_in {fuel : Nat} {cs : List Value} {x : DataW H × List MemPlace} (h : DataW.trod enc Tryz.prog W base spare held fuel 22 cs = some x) : ∃ (s : Sl3) (l : List (Int × Int)), cs = [.slice s.1 s.2.1 s.2.2] ∧ PtsAt W (.slice s.1 s.2.1 s.2.2) l := by
  obtain ⟨l, p, c, rfl, hl, -, hc⟩ := open_els Tryz.underlying22 2 (by kernel_rfl) (by omega) ((0, 0) : Int × Int) (fun cs q => cs = [.int .i64 q.1, .int .i64 q.2]) (fun _ _ _ h => point_in h) h
  refine ⟨(p, l.length, c), l, rfl, p, c, rfl, fun hn => ?_⟩
  obtain ⟨b, o, hp, hb, hc⟩ := hc hn
  refine ⟨b, o, hp, hb, fun i hi => ?_⟩
  obtain ⟨cs', rfl, h1⟩ := hc i hi
  exact ⟨h1 0 _ rfl, h1 1 _ rfl⟩

theorem one_in {fuel : Nat} {cs : List Value} {x : DataW H × List MemPlace} (h : DataW.trod enc Tryz.prog W base spare held fuel 3 cs = some x) : ∃ a : Int, cs = [.int .i64 a] := by
  obtain ⟨a, e0, -, -⟩ := DataW.trod_int Tryz.underlying3 h
  exact ⟨a, e0⟩

theorem ints_in {fuel : Nat} {cs : List Value} {x : DataW H × List MemPlace} (h : DataW.trod enc Tryz.prog W base spare held fuel 47 cs = some x) : ∃ (s : Sl3) (l : List Int), cs = [.slice s.1 s.2.1 s.2.2] ∧ IntsAt W (.slice s.1 s.2.1 s.2.2) l ∧ l.length ≤ s.2.2 := by
  obtain ⟨l, p, c, rfl, hl, -, hc⟩ := open_els Tryz.underlying47 1 (by kernel_rfl) (by omega) (0 : Int) (fun cs q => cs = [.int .i64 q]) (fun _ _ _ h => one_in h) h
  refine ⟨(p, l.length, c), l, rfl, ⟨p, c, rfl, fun hn => ?_⟩, hl⟩
  obtain ⟨b, o, hp, hb, hc⟩ := hc hn
  refine ⟨b, o, hp, hb, fun i hi => ?_⟩
  obtain ⟨cs', rfl, h1⟩ := hc i hi
  simpa [inI] using h1 0 _ rfl

set_option maxRecDepth 100000 in
theorem clock_in {fuel : Nat} {cs : List Value} {x : DataW H × List MemPlace} (h : DataW.trod enc Tryz.prog W base spare held fuel 55 cs = some x) :
    ∃ (E R D L : Int), cs = [.int .i64 E, .int .i64 R, .int .i64 D, .int .i64 L] := by
  obtain ⟨xs, n, -, -, hl, hxl, hf⟩ := DataW.trod_struct Tryz.underlying55 h
  have kc : cs.length = 4 := hl.trans (by kernel_rfl)
  match cs, kc with
  | [c0, c1, c2, c3], _ =>
    match xs, hxl with
    | [y0, y1, y2, y3], _ =>
      have k0 : Tryz.prog.cellsOf 3 = 1 := by kernel_rfl
      have h0 : DataW.trod enc Tryz.prog W base spare held n 3 [c0] = some y0 := by
        have h : DataW.trod enc Tryz.prog W base spare held n 3 (List.take (Tryz.prog.cellsOf 3) (List.drop 0 [c0, c1, c2, c3])) = [y0, y1, y2, y3][0]? := hf 0 _ rfl
        rw [k0] at h
        exact h
      have k1 : Tryz.prog.cellsOf 3 = 1 := by kernel_rfl
      have h1 : DataW.trod enc Tryz.prog W base spare held n 3 [c1] = some y1 := by
        have h : DataW.trod enc Tryz.prog W base spare held n 3 (List.take (Tryz.prog.cellsOf 3) (List.drop 1 [c0, c1, c2, c3])) = [y0, y1, y2, y3][1]? := hf 1 _ rfl
        rw [k1] at h
        exact h
      have k2 : Tryz.prog.cellsOf 3 = 1 := by kernel_rfl
      have h2 : DataW.trod enc Tryz.prog W base spare held n 3 [c2] = some y2 := by
        have h : DataW.trod enc Tryz.prog W base spare held n 3 (List.take (Tryz.prog.cellsOf 3) (List.drop 2 [c0, c1, c2, c3])) = [y0, y1, y2, y3][2]? := hf 2 _ rfl
        rw [k2] at h
        exact h
      have k3 : Tryz.prog.cellsOf 3 = 1 := by kernel_rfl
      have h3 : DataW.trod enc Tryz.prog W base spare held n 3 [c3] = some y3 := by
        have h : DataW.trod enc Tryz.prog W base spare held n 3 (List.take (Tryz.prog.cellsOf 3) (List.drop 3 [c0, c1, c2, c3])) = [y0, y1, y2, y3][3]? := hf 3 _ rfl
        rw [k3] at h
        exact h
      obtain ⟨a, e0, -, w0⟩ := DataW.trod_int Tryz.underlying3 h0
      obtain rfl := (List.cons.inj e0).1
      obtain ⟨b, e1, -, w1⟩ := DataW.trod_int Tryz.underlying3 h1
      obtain rfl := (List.cons.inj e1).1
      obtain ⟨c, e2, -, w2⟩ := DataW.trod_int Tryz.underlying3 h2
      obtain rfl := (List.cons.inj e2).1
      obtain ⟨d, e3, -, w3⟩ := DataW.trod_int Tryz.underlying3 h3
      obtain rfl := (List.cons.inj e3).1
      exact ⟨a, b, c, d, rfl⟩

set_option maxRecDepth 100000 in
theorem effect_in {fuel : Nat} {cs : List Value} {x : DataW H × List MemPlace} (h : DataW.trod enc Tryz.prog W base spare held fuel 36 cs = some x) :
    ∃ y : Efx × Sl3, cs = encE y ∧ PtsAt W (.slice y.2.1 y.2.2.1 y.2.2.2) y.1.wv := by
  obtain ⟨xs, n, -, -, hl, hxl, hf⟩ := DataW.trod_struct Tryz.underlying36 h
  have kc : cs.length = 6 := hl.trans (by kernel_rfl)
  match cs, kc with
  | [c0, c1, c2, c3, c4, c5], _ =>
    match xs, hxl with
    | [y0, y1, y2, y3, y4, y5], _ =>
      have k0 : Tryz.prog.cellsOf 3 = 1 := by kernel_rfl
      have h0 : DataW.trod enc Tryz.prog W base spare held n 3 [c0] = some y0 := by
        have h : DataW.trod enc Tryz.prog W base spare held n 3 (List.take (Tryz.prog.cellsOf 3) (List.drop 0 [c0, c1, c2, c3, c4, c5])) = [y0, y1, y2, y3, y4, y5][0]? := hf 0 _ rfl
        rw [k0] at h
        exact h
      have k1 : Tryz.prog.cellsOf 3 = 1 := by kernel_rfl
      have h1 : DataW.trod enc Tryz.prog W base spare held n 3 [c1] = some y1 := by
        have h : DataW.trod enc Tryz.prog W base spare held n 3 (List.take (Tryz.prog.cellsOf 3) (List.drop 1 [c0, c1, c2, c3, c4, c5])) = [y0, y1, y2, y3, y4, y5][1]? := hf 1 _ rfl
        rw [k1] at h
        exact h
      have k2 : Tryz.prog.cellsOf 22 = 1 := by kernel_rfl
      have h2 : DataW.trod enc Tryz.prog W base spare held n 22 [c2] = some y2 := by
        have h : DataW.trod enc Tryz.prog W base spare held n 22 (List.take (Tryz.prog.cellsOf 22) (List.drop 2 [c0, c1, c2, c3, c4, c5])) = [y0, y1, y2, y3, y4, y5][2]? := hf 2 _ rfl
        rw [k2] at h
        exact h
      have k3 : Tryz.prog.cellsOf 3 = 1 := by kernel_rfl
      have h3 : DataW.trod enc Tryz.prog W base spare held n 3 [c3] = some y3 := by
        have h : DataW.trod enc Tryz.prog W base spare held n 3 (List.take (Tryz.prog.cellsOf 3) (List.drop 3 [c0, c1, c2, c3, c4, c5])) = [y0, y1, y2, y3, y4, y5][3]? := hf 3 _ rfl
        rw [k3] at h
        exact h
      have k4 : Tryz.prog.cellsOf 3 = 1 := by kernel_rfl
      have h4 : DataW.trod enc Tryz.prog W base spare held n 3 [c4] = some y4 := by
        have h : DataW.trod enc Tryz.prog W base spare held n 3 (List.take (Tryz.prog.cellsOf 3) (List.drop 4 [c0, c1, c2, c3, c4, c5])) = [y0, y1, y2, y3, y4, y5][4]? := hf 4 _ rfl
        rw [k4] at h
        exact h
      have k5 : Tryz.prog.cellsOf 3 = 1 := by kernel_rfl
      have h5 : DataW.trod enc Tryz.prog W base spare held n 3 [c5] = some y5 := by
        have h : DataW.trod enc Tryz.prog W base spare held n 3 (List.take (Tryz.prog.cellsOf 3) (List.drop 5 [c0, c1, c2, c3, c4, c5])) = [y0, y1, y2, y3, y4, y5][5]? := hf 5 _ rfl
        rw [k5] at h
        exact h
      obtain ⟨a, e0, -, w0⟩ := DataW.trod_int Tryz.underlying3 h0
      obtain rfl := (List.cons.inj e0).1
      obtain ⟨b, e1, -, w1⟩ := DataW.trod_int Tryz.underlying3 h1
      obtain rfl := (List.cons.inj e1).1
      obtain ⟨s, l, e2, hl2⟩ := points_in h2
      obtain rfl := (List.cons.inj e2).1
      obtain ⟨c, e3, -, w3⟩ := DataW.trod_int Tryz.underlying3 h3
      obtain rfl := (List.cons.inj e3).1
      obtain ⟨d, e4, -, w4⟩ := DataW.trod_int Tryz.underlying3 h4
      obtain rfl := (List.cons.inj e4).1
      obtain ⟨f, e5, -, w5⟩ := DataW.trod_int Tryz.underlying3 h5
      obtain rfl := (List.cons.inj e5).1
      exact ⟨(⟨a, b, l, c, d, f⟩, s), rfl, hl2⟩

set_option maxRecDepth 100000 in
theorem runL_in {fuel : Nat} {cs : List Value} {x : DataW H × List MemPlace} (h : DataW.trod enc Tryz.prog W base spare held fuel 58 cs = some x) :
    ∃ y : Rnx × Sl3, cs = encN y ∧ IntsAt W (.slice y.2.1 y.2.2.1 y.2.2.2) y.1.cs ∧ y.1.cs.length ≤ y.2.2.2 := by
  obtain ⟨xs, n, -, -, hl, hxl, hf⟩ := DataW.trod_struct Tryz.underlying58 h
  have kc : cs.length = 6 := hl.trans (by kernel_rfl)
  match cs, kc with
  | [c0, c1, c2, c3, c4, c5], _ =>
    match xs, hxl with
    | [y0, y1, y2], _ =>
      have k0 : Tryz.prog.cellsOf 3 = 1 := by kernel_rfl
      have h0 : DataW.trod enc Tryz.prog W base spare held n 3 [c0] = some y0 := by
        have h : DataW.trod enc Tryz.prog W base spare held n 3 (List.take (Tryz.prog.cellsOf 3) (List.drop 0 [c0, c1, c2, c3, c4, c5])) = [y0, y1, y2][0]? := hf 0 _ rfl
        rw [k0] at h
        exact h
      have k1 : Tryz.prog.cellsOf 47 = 1 := by kernel_rfl
      have h1 : DataW.trod enc Tryz.prog W base spare held n 47 [c1] = some y1 := by
        have h : DataW.trod enc Tryz.prog W base spare held n 47 (List.take (Tryz.prog.cellsOf 47) (List.drop 1 [c0, c1, c2, c3, c4, c5])) = [y0, y1, y2][1]? := hf 1 _ rfl
        rw [k1] at h
        exact h
      have k2 : Tryz.prog.cellsOf 55 = 4 := by kernel_rfl
      have h2 : DataW.trod enc Tryz.prog W base spare held n 55 [c2, c3, c4, c5] = some y2 := by
        have h : DataW.trod enc Tryz.prog W base spare held n 55 (List.take (Tryz.prog.cellsOf 55) (List.drop 2 [c0, c1, c2, c3, c4, c5])) = [y0, y1, y2][2]? := hf 2 _ rfl
        rw [k2] at h
        exact h
      obtain ⟨a, e0, -, w0⟩ := DataW.trod_int Tryz.underlying3 h0
      obtain rfl := (List.cons.inj e0).1
      obtain ⟨s, l, e2, hl2⟩ := ints_in h1
      obtain rfl := (List.cons.inj e2).1
      obtain ⟨E, R, D, L, e3⟩ := clock_in h2
      simp only [List.cons.injEq, and_true] at e3
      obtain ⟨rfl, rfl, rfl, rfl⟩ := e3
      exact ⟨(⟨a, l, E, R, D, L⟩, s), rfl, hl2⟩

variable {r : Reach} {b0 : Nat} {v : Value} {d : DataW H} {p : List MemPlace} in
set_option maxRecDepth 100000 in
theorem open_effs (hv : Value.okWide Tryz.prog W r b0 59 v) (h : DataW.Trod enc Tryz.prog W base spare held 59 v d p) : ∃ l, EfsAt W v l ∧ l.length ≤ maxLen := by
  obtain ⟨a0, len, cap, rfl⟩ := okWide_slice Tryz.underlying59 hv
  obtain ⟨fuel, hf⟩ := h
  obtain ⟨l, p, c, h1, hl, hm, hc⟩ := open_els Tryz.underlying59 6 (by kernel_rfl) (by omega) ((⟨0, 0, [], 0, 0, 0⟩, (none, 0, 0)) : Efx × Sl3) (fun cs y => cs = encE y ∧ PtsAt W (.slice y.2.1 y.2.2.1 y.2.2.2) y.1.wv) (fun _ _ _ h => effect_in h) hf
  have h9 : Value.slice a0 len cap = .slice p l.length c := (List.cons.inj h1).1
  rw [h9]
  refine ⟨l.map (·.1), ⟨l, p, c, rfl, rfl, fun hn => ?_, fun y hy => ?_⟩, by rw [List.length_map]; omega⟩
  · obtain ⟨b, o, hp, hb, hc⟩ := hc hn
    refine ⟨b, o, hp, hb, fun i hi j u hu => ?_⟩
    obtain ⟨cs', ⟨rfl, -⟩, h1⟩ := hc i hi
    rw [List.getElem?_eq_getElem hi] at h1
    exact h1 j u hu
  · obtain ⟨b, o, hp, hb, hc⟩ := hc (fun h => by subst h; cases hy)
    obtain ⟨i, hi, rfl⟩ := List.getElem_of_mem hy
    obtain ⟨cs', ⟨-, h2⟩, -⟩ := hc i hi
    rw [List.getElem?_eq_getElem hi] at h2
    exact h2
variable {r : Reach} {b0 : Nat} {v : Value} {d : DataW H} {p : List MemPlace} in
set_option maxRecDepth 100000 in
theorem open_runs (hv : Value.okWide Tryz.prog W r b0 50 v) (h : DataW.Trod enc Tryz.prog W base spare held 50 v d p) : ∃ l, RunsAt W v l ∧ l.length ≤ maxLen := by
  obtain ⟨a0, len, cap, rfl⟩ := okWide_slice Tryz.underlying50 hv
  obtain ⟨fuel, hf⟩ := h
  obtain ⟨l, p, c, h1, hl, hm, hc⟩ := open_els Tryz.underlying50 6 (by kernel_rfl) (by omega) ((⟨0, [], 0, 0, 0, 0⟩, (none, 0, 0)) : Rnx × Sl3) (fun cs y => cs = encN y ∧ IntsAt W (.slice y.2.1 y.2.2.1 y.2.2.2) y.1.cs ∧ y.1.cs.length ≤ y.2.2.2) (fun _ _ _ h => runL_in h) hf
  have h9 : Value.slice a0 len cap = .slice p l.length c := (List.cons.inj h1).1
  rw [h9]
  refine ⟨l.map (·.1), ⟨l, p, c, rfl, rfl, fun hn => ?_, fun y hy => ?_⟩, by rw [List.length_map]; omega⟩
  · obtain ⟨b, o, hp, hb, hc⟩ := hc hn
    refine ⟨b, o, hp, hb, fun i hi j u hu => ?_⟩
    obtain ⟨cs', ⟨rfl, -⟩, h1⟩ := hc i hi
    rw [List.getElem?_eq_getElem hi] at h1
    exact h1 j u hu
  · obtain ⟨b, o, hp, hb, hc⟩ := hc (fun h => by subst h; cases hy)
    obtain ⟨i, hi, rfl⟩ := List.getElem_of_mem hy
    obtain ⟨cs', ⟨-, h2⟩, -⟩ := hc i hi
    rw [List.getElem?_eq_getElem hi] at h2
    exact h2
variable {r : Reach} {b0 : Nat} {v : Value} {d : DataW H} {p : List MemPlace}
set_option maxRecDepth 100000 in
theorem open_effect (hv : Value.okWide Tryz.prog W r b0 36 v) (h : DataW.Trod enc Tryz.prog W base spare held 36 v d p) : ∃ y : Efx × Sl3, v = .agg (encE y).toArray ∧ PtsAt W (.slice y.2.1 y.2.2.1 y.2.2.2) y.1.wv := by
  obtain ⟨cs, rfl, hsz⟩ := okWide_struct Tryz.underlying36 hv
  obtain ⟨l⟩ := cs
  obtain ⟨fuel, hf⟩ := h
  obtain ⟨y, h1, h2⟩ := effect_in hf
  exact ⟨y, by simpa [Value.cells] using h1, h2⟩
set_option maxRecDepth 100000 in
theorem open_ints (hv : Value.okWide Tryz.prog W r b0 47 v) (h : DataW.Trod enc Tryz.prog W base spare held 47 v d p) : ∃ (s : Sl3) (l : List Int), v = .slice s.1 s.2.1 s.2.2 ∧ IntsAt W (.slice s.1 s.2.1 s.2.2) l ∧ l.length ≤ s.2.2 := by
  obtain ⟨a0, len, cap, rfl⟩ := okWide_slice Tryz.underlying47 hv
  obtain ⟨fuel, hf⟩ := h
  obtain ⟨s, l, h1, h2⟩ := ints_in hf
  obtain h3 := (List.cons.inj h1).1
  exact ⟨s, l, h3, h2⟩
set_option maxRecDepth 100000 in
theorem member_in {fuel : Nat} {cs : List Value} {x : DataW H × List MemPlace} (h : DataW.trod enc Tryz.prog W base spare held fuel 38 cs = some x) :
    ∃ (a b c : Int), cs = [.int .i64 a, .int .i64 b, .int .i64 c] ∧ (-9223372036854775808 ≤ a ∧ a ≤ 9223372036854775807) ∧ (-9223372036854775808 ≤ b ∧ b ≤ 9223372036854775807) ∧ (-9223372036854775808 ≤ c ∧ c ≤ 9223372036854775807) := by
  obtain ⟨xs, n, -, -, hl, hxl, hf⟩ := DataW.trod_struct Tryz.underlying38 h
  have kc : cs.length = 3 := hl.trans (by kernel_rfl)
  match cs, kc with
  | [c0, c1, c2], _ =>
    match xs, hxl with
    | [y0, y1, y2], _ =>
      have k0 : Tryz.prog.cellsOf 3 = 1 := by kernel_rfl
      have h0 : DataW.trod enc Tryz.prog W base spare held n 3 [c0] = some y0 := by
        have h : DataW.trod enc Tryz.prog W base spare held n 3 (List.take (Tryz.prog.cellsOf 3) (List.drop 0 [c0, c1, c2])) = [y0, y1, y2][0]? := hf 0 _ rfl
        rw [k0] at h
        exact h
      have k1 : Tryz.prog.cellsOf 3 = 1 := by kernel_rfl
      have h1 : DataW.trod enc Tryz.prog W base spare held n 3 [c1] = some y1 := by
        have h : DataW.trod enc Tryz.prog W base spare held n 3 (List.take (Tryz.prog.cellsOf 3) (List.drop 1 [c0, c1, c2])) = [y0, y1, y2][1]? := hf 1 _ rfl
        rw [k1] at h
        exact h
      have k2 : Tryz.prog.cellsOf 3 = 1 := by kernel_rfl
      have h2 : DataW.trod enc Tryz.prog W base spare held n 3 [c2] = some y2 := by
        have h : DataW.trod enc Tryz.prog W base spare held n 3 (List.take (Tryz.prog.cellsOf 3) (List.drop 2 [c0, c1, c2])) = [y0, y1, y2][2]? := hf 2 _ rfl
        rw [k2] at h
        exact h
      obtain ⟨a, e0, -, w0⟩ := DataW.trod_int Tryz.underlying3 h0
      obtain rfl := (List.cons.inj e0).1
      obtain ⟨b, e1, -, w1⟩ := DataW.trod_int Tryz.underlying3 h1
      obtain rfl := (List.cons.inj e1).1
      obtain ⟨c, e2, -, w2⟩ := DataW.trod_int Tryz.underlying3 h2
      obtain rfl := (List.cons.inj e2).1
      exact ⟨a, b, c, rfl, wf_i64 w0, wf_i64 w1, wf_i64 w2⟩

set_option maxRecDepth 100000 in
theorem open_member (hv : Value.okWide Tryz.prog W r b0 38 v) (h : DataW.Trod enc Tryz.prog W base spare held 38 v d p) : ∃ (a b c : Int), v = .agg #[.int .i64 a, .int .i64 b, .int .i64 c] ∧ (-9223372036854775808 ≤ a ∧ a ≤ 9223372036854775807) ∧ (-9223372036854775808 ≤ b ∧ b ≤ 9223372036854775807) ∧ (-9223372036854775808 ≤ c ∧ c ≤ 9223372036854775807) := by
  obtain ⟨cs, rfl, hsz⟩ := okWide_struct Tryz.underlying38 hv
  obtain ⟨l⟩ := cs
  obtain ⟨fuel, hf⟩ := h
  obtain ⟨a, b, c, h1, h2⟩ := member_in hf
  exact ⟨a, b, c, by simpa [Value.cells] using h1, h2⟩
set_option maxRecDepth 100000 in
theorem turn_in {fuel : Nat} {cs : List Value} {x : DataW H × List MemPlace} (h : DataW.trod enc Tryz.prog W base spare held fuel 76 cs = some x) :
    ∃ (a b c : Int), cs = [.int .i64 a, .int .i64 b, .int .i64 c] ∧ (-9223372036854775808 ≤ a ∧ a ≤ 9223372036854775807) ∧ (-9223372036854775808 ≤ b ∧ b ≤ 9223372036854775807) ∧ (-9223372036854775808 ≤ c ∧ c ≤ 9223372036854775807) := by
  obtain ⟨xs, n, -, -, hl, hxl, hf⟩ := DataW.trod_struct Tryz.underlying76 h
  have kc : cs.length = 3 := hl.trans (by kernel_rfl)
  match cs, kc with
  | [c0, c1, c2], _ =>
    match xs, hxl with
    | [y0, y1, y2], _ =>
      have k0 : Tryz.prog.cellsOf 3 = 1 := by kernel_rfl
      have h0 : DataW.trod enc Tryz.prog W base spare held n 3 [c0] = some y0 := by
        have h : DataW.trod enc Tryz.prog W base spare held n 3 (List.take (Tryz.prog.cellsOf 3) (List.drop 0 [c0, c1, c2])) = [y0, y1, y2][0]? := hf 0 _ rfl
        rw [k0] at h
        exact h
      have k1 : Tryz.prog.cellsOf 3 = 1 := by kernel_rfl
      have h1 : DataW.trod enc Tryz.prog W base spare held n 3 [c1] = some y1 := by
        have h : DataW.trod enc Tryz.prog W base spare held n 3 (List.take (Tryz.prog.cellsOf 3) (List.drop 1 [c0, c1, c2])) = [y0, y1, y2][1]? := hf 1 _ rfl
        rw [k1] at h
        exact h
      have k2 : Tryz.prog.cellsOf 3 = 1 := by kernel_rfl
      have h2 : DataW.trod enc Tryz.prog W base spare held n 3 [c2] = some y2 := by
        have h : DataW.trod enc Tryz.prog W base spare held n 3 (List.take (Tryz.prog.cellsOf 3) (List.drop 2 [c0, c1, c2])) = [y0, y1, y2][2]? := hf 2 _ rfl
        rw [k2] at h
        exact h
      obtain ⟨a, e0, -, w0⟩ := DataW.trod_int Tryz.underlying3 h0
      obtain rfl := (List.cons.inj e0).1
      obtain ⟨b, e1, -, w1⟩ := DataW.trod_int Tryz.underlying3 h1
      obtain rfl := (List.cons.inj e1).1
      obtain ⟨c, e2, -, w2⟩ := DataW.trod_int Tryz.underlying3 h2
      obtain rfl := (List.cons.inj e2).1
      exact ⟨a, b, c, rfl, wf_i64 w0, wf_i64 w1, wf_i64 w2⟩

set_option maxRecDepth 100000 in
theorem open_turn (hv : Value.okWide Tryz.prog W r b0 76 v) (h : DataW.Trod enc Tryz.prog W base spare held 76 v d p) : ∃ (a b c : Int), v = .agg #[.int .i64 a, .int .i64 b, .int .i64 c] ∧ (-9223372036854775808 ≤ a ∧ a ≤ 9223372036854775807) ∧ (-9223372036854775808 ≤ b ∧ b ≤ 9223372036854775807) ∧ (-9223372036854775808 ≤ c ∧ c ≤ 9223372036854775807) := by
  obtain ⟨cs, rfl, hsz⟩ := okWide_struct Tryz.underlying76 hv
  obtain ⟨l⟩ := cs
  obtain ⟨fuel, hf⟩ := h
  obtain ⟨a, b, c, h1, h2⟩ := turn_in hf
  exact ⟨a, b, c, by simpa [Value.cells] using h1, h2⟩
set_option maxRecDepth 100000 in
theorem param28_in {fuel : Nat} {cs : List Value} {x : DataW H × List MemPlace} (h : DataW.trod enc Tryz.prog W base spare held fuel 61 cs = some x) :
    ∃ (ch at_ : Int), cs = [.int .i64 ch, .int .i64 at_] ∧ (-9223372036854775808 ≤ ch ∧ ch ≤ 9223372036854775807) ∧ (-9223372036854775808 ≤ at_ ∧ at_ ≤ 9223372036854775807) := by
  obtain ⟨xs, n, -, -, hl, hxl, hf⟩ := DataW.trod_struct Tryz.underlying61 h
  have kc : cs.length = 2 := hl.trans (by kernel_rfl)
  match cs, kc with
  | [c0, c1], _ =>
    match xs, hxl with
    | [y0, y1], _ =>
      have k0 : Tryz.prog.cellsOf 3 = 1 := by kernel_rfl
      have h0 : DataW.trod enc Tryz.prog W base spare held n 3 [c0] = some y0 := by
        have h : DataW.trod enc Tryz.prog W base spare held n 3 (List.take (Tryz.prog.cellsOf 3) (List.drop 0 [c0, c1])) = [y0, y1][0]? := hf 0 _ rfl
        rw [k0] at h
        exact h
      have k1 : Tryz.prog.cellsOf 3 = 1 := by kernel_rfl
      have h1 : DataW.trod enc Tryz.prog W base spare held n 3 [c1] = some y1 := by
        have h : DataW.trod enc Tryz.prog W base spare held n 3 (List.take (Tryz.prog.cellsOf 3) (List.drop 1 [c0, c1])) = [y0, y1][1]? := hf 1 _ rfl
        rw [k1] at h
        exact h
      obtain ⟨a, e0, -, w0⟩ := DataW.trod_int Tryz.underlying3 h0
      obtain rfl := (List.cons.inj e0).1
      obtain ⟨b, e1, -, w1⟩ := DataW.trod_int Tryz.underlying3 h1
      obtain rfl := (List.cons.inj e1).1
      exact ⟨a, b, rfl, wf_i64 w0, wf_i64 w1⟩

set_option maxRecDepth 100000 in
theorem moment_in {fuel : Nat} {cs : List Value} {x : DataW H × List MemPlace} (h : DataW.trod enc Tryz.prog W base spare held fuel 89 cs = some x) :
    ∃ (a b c d : Int), cs = [.int .i64 a, .int .i64 b, .int .i64 c, .int .i64 d] ∧ (-9223372036854775808 ≤ a ∧ a ≤ 9223372036854775807) ∧ (-9223372036854775808 ≤ b ∧ b ≤ 9223372036854775807) ∧ (-9223372036854775808 ≤ c ∧ c ≤ 9223372036854775807) ∧ (-9223372036854775808 ≤ d ∧ d ≤ 9223372036854775807) := by
  obtain ⟨xs, n, -, -, hl, hxl, hf⟩ := DataW.trod_struct Tryz.underlying89 h
  have kc : cs.length = 4 := hl.trans (by kernel_rfl)
  match cs, kc with
  | [c0, c1, c2, c3], _ =>
    match xs, hxl with
    | [y0, y1, y2], _ =>
      have k0 : Tryz.prog.cellsOf 3 = 1 := by kernel_rfl
      have h0 : DataW.trod enc Tryz.prog W base spare held n 3 [c0] = some y0 := by
        have h : DataW.trod enc Tryz.prog W base spare held n 3 (List.take (Tryz.prog.cellsOf 3) (List.drop 0 [c0, c1, c2, c3])) = [y0, y1, y2][0]? := hf 0 _ rfl
        rw [k0] at h
        exact h
      have k1 : Tryz.prog.cellsOf 3 = 1 := by kernel_rfl
      have h1 : DataW.trod enc Tryz.prog W base spare held n 3 [c1] = some y1 := by
        have h : DataW.trod enc Tryz.prog W base spare held n 3 (List.take (Tryz.prog.cellsOf 3) (List.drop 1 [c0, c1, c2, c3])) = [y0, y1, y2][1]? := hf 1 _ rfl
        rw [k1] at h
        exact h
      have k2 : Tryz.prog.cellsOf 61 = 2 := by kernel_rfl
      have h2 : DataW.trod enc Tryz.prog W base spare held n 61 [c2, c3] = some y2 := by
        have h : DataW.trod enc Tryz.prog W base spare held n 61 (List.take (Tryz.prog.cellsOf 61) (List.drop 2 [c0, c1, c2, c3])) = [y0, y1, y2][2]? := hf 2 _ rfl
        rw [k2] at h
        exact h
      obtain ⟨a, e0, -, w0⟩ := DataW.trod_int Tryz.underlying3 h0
      obtain rfl := (List.cons.inj e0).1
      obtain ⟨b, e1, -, w1⟩ := DataW.trod_int Tryz.underlying3 h1
      obtain rfl := (List.cons.inj e1).1
      obtain ⟨c, d, e2, hc, hd⟩ := param28_in h2
      simp only [List.cons.injEq, and_true] at e2
      obtain ⟨rfl, rfl⟩ := e2
      exact ⟨a, b, c, d, rfl, wf_i64 w0, wf_i64 w1, hc, hd⟩

set_option maxRecDepth 100000 in
theorem open_moment (hv : Value.okWide Tryz.prog W r b0 89 v) (h : DataW.Trod enc Tryz.prog W base spare held 89 v d p) : ∃ (a b c d : Int), v = .agg #[.int .i64 a, .int .i64 b, .int .i64 c, .int .i64 d] ∧ (-9223372036854775808 ≤ a ∧ a ≤ 9223372036854775807) ∧ (-9223372036854775808 ≤ b ∧ b ≤ 9223372036854775807) ∧ (-9223372036854775808 ≤ c ∧ c ≤ 9223372036854775807) ∧ (-9223372036854775808 ≤ d ∧ d ≤ 9223372036854775807) := by
  obtain ⟨cs, rfl, hsz⟩ := okWide_struct Tryz.underlying89 hv
  obtain ⟨l⟩ := cs
  obtain ⟨fuel, hf⟩ := h
  obtain ⟨a, b, c, d, h1, h2⟩ := moment_in hf
  exact ⟨a, b, c, d, by simpa [Value.cells] using h1, h2⟩
end
end Go.Proofs.YtbamcfhmkohbmaaGreatDoor
namespace Go.Proofs.YtbamcfhmkohbmaaGreatDoor


open Go.RowKit Go.Shelf Lum Go.ChangeShapes Go.WideShapes Go.ChangeAt Go.Joins

section
variable {H : Type} {enc : TypeId × Value → H} {P : Program} {w : World} {base : Nat} {spare : Nat → Bool} {held : Bool}
theorem trod_array2 {t e : TypeId} {fuel : Nat} {c0 c1 : Value} {x : DataW H × List MemPlace} (ht : P.underlying t = some (.array 2 e)) (hce : P.cellsOf e = 1)
    (h : DataW.trod enc P w base spare held fuel t [c0, c1] = some x) :
    ∃ y0 y1 n, DataW.trod enc P w base spare held n e [c0] = some y0 ∧ DataW.trod enc P w base spare held n e [c1] = some y1 := by
  cases fuel with
  | zero => simp [DataW.trod] at h
  | succ n =>
    unfold DataW.trod at h
    rw [ht] at h
    have r2 : List.range 2 = [0, 1] := rfl
    simp [r2, hce] at h
    obtain ⟨_, h⟩ := h
    cases h0 : DataW.trod enc P w base spare held n e [c0] with
    | none => simp [h0] at h
    | some y0 =>
      cases h1 : DataW.trod enc P w base spare held n e [c1] with
      | none => simp [h0, h1] at h
      | some y1 => exact ⟨y0, y1, n, h0, h1⟩
end
section
variable {H : Type} {enc : TypeId × Value → H} {W : World} {base : Nat} {spare : Nat → Bool} {held : Bool} {r : Reach} {b0 : Nat} {v : Value} {d : DataW H} {p : List MemPlace}
set_option maxRecDepth 100000 in
theorem open_arr2 (hv : Value.okWide Tryz.prog W r b0 49 v) (h : DataW.Trod enc Tryz.prog W base spare held 49 v d p) : ∃ (z0 z1 : Int), v = .agg #[.int .u16 z0, .int .u16 z1] ∧ (0 ≤ z0 ∧ z0 ≤ 65535) ∧ (0 ≤ z1 ∧ z1 ≤ 65535) := by
  simp only [Value.okWide, Tryz.underlying49] at hv
  obtain ⟨cs, rfl, h2, -⟩ := hv
  rw [show Tryz.prog.cellsOf 49 = 2 by kernel_rfl] at h2
  obtain ⟨l⟩ := cs
  match l, h2 with
  | [c0, c1], _ =>
    obtain ⟨fuel, hf⟩ := h
    replace hf : DataW.trod enc Tryz.prog W base spare held fuel 49 [c0, c1] = some (d, p) := hf
    obtain ⟨y0, y1, m, h0, h1⟩ := trod_array2 Tryz.underlying49 (by kernel_rfl) hf
    obtain ⟨z0, e0, -, w0⟩ := DataW.trod_int Tryz.underlying48 h0
    obtain rfl := (List.cons.inj e0).1
    obtain ⟨z1, e1, -, w1⟩ := DataW.trod_int Tryz.underlying48 h1
    obtain rfl := (List.cons.inj e1).1
    exact ⟨z0, z1, rfl, wf_u16 w0, wf_u16 w1⟩
set_option maxRecDepth 100000 in
theorem open_arr3 (hv : Value.okWide Tryz.prog W r b0 102 v) (h : DataW.Trod enc Tryz.prog W base spare held 102 v d p) : ∃ (z0 z1 z2 : Int), v = .agg #[.int .u16 z0, .int .u16 z1, .int .u16 z2] ∧ (0 ≤ z0 ∧ z0 ≤ 65535) ∧ (0 ≤ z1 ∧ z1 ≤ 65535) ∧ (0 ≤ z2 ∧ z2 ≤ 65535) := by
  simp only [Value.okWide, Tryz.underlying102] at hv
  obtain ⟨cs, rfl, h2, -⟩ := hv
  rw [show Tryz.prog.cellsOf 102 = 3 by kernel_rfl] at h2
  obtain ⟨l⟩ := cs
  match l, h2 with
  | [c0, c1, c2], _ =>
    obtain ⟨fuel, hf⟩ := h
    replace hf : DataW.trod enc Tryz.prog W base spare held fuel 102 [c0, c1, c2] = some (d, p) := hf
    obtain ⟨y0, y1, y2, m, -, h0, h1, h2⟩ := trod_array3 Tryz.underlying102 (by kernel_rfl) hf
    obtain ⟨z0, e0, -, w0⟩ := DataW.trod_int Tryz.underlying48 h0
    obtain rfl := (List.cons.inj e0).1
    obtain ⟨z1, e1, -, w1⟩ := DataW.trod_int Tryz.underlying48 h1
    obtain rfl := (List.cons.inj e1).1
    obtain ⟨z2, e2, -, w2⟩ := DataW.trod_int Tryz.underlying48 h2
    obtain rfl := (List.cons.inj e2).1
    exact ⟨z0, z1, z2, rfl, wf_u16 w0, wf_u16 w1, wf_u16 w2⟩
end
end Go.Proofs.YtbamcfhmkohbmaaGreatDoor
