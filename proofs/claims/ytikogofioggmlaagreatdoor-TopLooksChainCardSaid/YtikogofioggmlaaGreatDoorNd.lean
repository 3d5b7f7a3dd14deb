/-
  Arguments opened: a list of cues, three bytes.
-/
import Derived.Test.YtikogofioggmlaaGreatDoorLv
import Derived.Test.YtikogofioggmlaaGreatDoorRowC
import Derived.Carry
import Derived.WideKeyArgs
import Derived.Deep.Slices
import Derived.Laws.IdiomArrays
set_option linter.unusedVariables false
set_option linter.unusedSimpArgs false
namespace Go.Proofs.YtikogofioggmlaaGreatDoor
open Go.RowKit Go.Shelf Lum Go.ChangeShapes Go.WideShapes Go.ChangeAt Go.Joins
attribute [local go_sem] bs_get bs_extract_end bs_extract_from bs_extract bs_append

theorem trodAll_stays {H : Type} {enc : TypeId × Value → H} {P : Program} (hl : laidOutB P = true) {W W' : World} {sp' : Nat → Bool} :
    ∀ {ts : List TypeId} {vs : List Value} {ds : List (DataW H)} {ps : List MemPlace}, (∀ t ∈ ts, P.readableRec t = true ∧ t < P.types.size) → DataW.TrodAll enc P W 0 (fun _ => true) true ts vs ds ps →
      (∀ p ∈ ps, W.sameAt W' p) → (∀ p ∈ ps, sp' p.block = true) → DataW.TrodAll enc P W' 0 sp' true ts vs ds ps
  | [], _, _, _, _, h, _, _ => by
    obtain ⟨rfl, rfl, rfl⟩ := trodAll_nil h
    exact trodAll_mk0
  | t :: ts, _, _, _, hT, h, hs, hp => by
    obtain ⟨v, vs', d, ds', p, q, rfl, rfl, rfl, h1, h2⟩ := trodAll_cons h
    exact trodAll_cons_mk (Go.WideElems.Trod_stays hl (hT t (List.mem_cons_self)).1 (hT t (List.mem_cons_self)).2 h1 (fun x hx => hs x (List.mem_append_left _ hx)) (fun x hx => hp x (List.mem_append_left _ hx)))
      (trodAll_stays hl (fun t' h' => hT t' (List.mem_cons_of_mem _ h')) h2 (fun x hx => hs x (List.mem_append_right _ hx)) (fun x hx => hp x (List.mem_append_right _ hx)))
/-- A slice whose elements are read by R. -/
theorem open_els {α : Type} {P : Program} {H : Type} {enc : TypeId × Value → H} {W : World} {base : Nat} {spare : Nat → Bool} {held : Bool} {t e : TypeId} (ht : P.underlying t = some (.slice e)) (k : Nat) (hk : P.cellsOf e = k) (hk0 : 0 < k) (dd : α) (R : List Value → α → Prop)
    (hin : ∀ n cs x, DataW.trod enc P W base spare held n e cs = some x → ∃ a, R cs a) {fuel : Nat} {cs : List Value} {x : DataW H × List MemPlace} (h : DataW.trod enc P W base spare held fuel t cs = some x) :
    ∃ (l : List α) (p : Option Addr) (c : Nat), cs = [.slice p l.length c] ∧ l.length ≤ c ∧ c ≤ maxLen ∧ (l ≠ [] → ∃ b o, p = some ⟨b, o, none⟩ ∧ b < W.heap.size ∧ ∀ i, i < l.length → ∃ cs', R cs' (l[i]?.getD dd) ∧ ∀ j v, cs'[j]? = some v → W.cell? ⟨b, o + i * k + j, none⟩ = some v) := by
  rcases Go.Deep.open_slice ht h with ⟨rfl, -⟩ | ⟨a, len, cap, m, n, D, Pl, rfl, hb, hl, hm, hmm, -, hx⟩
  · exact ⟨[], none, 0, rfl, Nat.le_refl _, by simp, fun h => absurd rfl h⟩
  · have hlm : len ≤ m := by rw [hmm]; split <;> omega
    rw [hk] at hx
    have key : ∀ i, ∃ q : α, i < m → ∃ cs', R cs' q ∧ 0 < cs'.length ∧ ∀ j v, cs'[j]? = some v → W.cell? ((a.add (i * k)).add j) = some v := by
      intro i
      by_cases hi : i < m
      · obtain ⟨cs', h1, h2⟩ := hx i hi
        obtain ⟨q, hq⟩ := hin _ _ _ h2
        obtain ⟨-, hcl, hat⟩ := World.cells?_some h1
        refine ⟨q, fun _ => ⟨cs', hq, by omega, fun j v hj => ?_⟩⟩
        have hjl := (List.getElem?_eq_some_iff.1 hj).1
        rw [hat j (by omega), hj]
      · exact ⟨dd, fun h => absurd h hi⟩
    obtain ⟨q, hq⟩ := Classical.axiomOfChoice key
    have hlen : ((List.range len).map q).length = len := by simp
    refine ⟨(List.range len).map q, some a, cap, by rw [hlen], by rw [hlen]; exact hl, hm, fun hne => ?_⟩
    have h0 : 0 < len := by
      rcases Nat.eq_zero_or_pos len with h | h
      · subst h; exact absurd rfl hne
      · exact h
    obtain ⟨b, off, spot⟩ := a
    have hspot : spot = none := by
      obtain ⟨cs', -, h2, h3⟩ := hq 0 (by omega)
      have := h3 0 _ (List.getElem?_eq_getElem h2)
      rw [Nat.zero_mul] at this
      simpa [Addr.add] using World.cell?_spot this
    subst hspot
    refine ⟨b, off, rfl, ?_, fun i hi => ?_⟩
    · obtain ⟨cs', -, h2, h3⟩ := hq 0 (by omega)
      have := h3 0 _ (List.getElem?_eq_getElem h2)
      rw [add_plain, add_plain] at this
      exact World.block_lt_of_cell? W _ this
    · rw [hlen] at hi
      obtain ⟨cs', h1, -, h3⟩ := hq i (by omega)
      refine ⟨cs', ?_, fun j v hj => ?_⟩
      · simpa [hi] using h1
      · have := h3 j v hj
        rw [add_plain, add_plain] at this
        exact this
section
variable {H : Type} {enc : TypeId × Value → H} {W : World} {base : Nat} {spare : Nat → Bool} {held : Bool}
set_option maxRecDepth 100000 in
theorem paramL_in {fuel : Nat} {cs : List Value} {x : DataW H × List MemPlace} (h : DataW.trod enc Tryz.prog W base spare held fuel 39 cs = some x) :
    ∃ (ch at_ : Int), cs = [.int .i64 ch, .int .i64 at_] := by
  obtain ⟨xs, n, -, -, hl, hxl, hf⟩ := DataW.trod_struct Tryz.underlying39 h
  have kc : cs.length = 2 := hl.trans (by kernel_rfl)
  match cs, kc with
  | [c0, c1], _ =>
    match xs, hxl with
    | [y0, y1], _ =>
      have k0 : Tryz.prog.cellsOf 3 = 1 := by kernel_rfl
      have h0 : DataW.trod enc Tryz.prog W base spare held n 3 [c0] = some y0 := by
        have h : DataW.trod enc Tryz.prog W base spare held n 3 (List.take (Tryz.prog.cellsOf 3) (List.drop 0 [c0, c1])) = [y0, y1][0]? := hf 0 _ rfl
        rw [k0] at h
        exact h
      have k1 : Tryz.prog.cellsOf 3 = 1 := by kernel_rfl
      have h1 : DataW.trod enc Tryz.prog W base spare held n 3 [c1] = some y1 := by
        have h : DataW.trod enc Tryz.prog W base spare held n 3 (List.take (Tryz.prog.cellsOf 3) (List.drop 1 [c0, c1])) = [y0, y1][1]? := hf 1 _ rfl
        rw [k1] at h
        exact h
      obtain ⟨a, e0, -, w0⟩ := DataW.trod_int Tryz.underlying3 h0
      obtain rfl := (List.cons.inj e0).1
      obtain ⟨b, e1, -, w1⟩ := DataW.trod_int Tryz.underlying3 h1
      obtain rfl := (List.cons.inj e1).1
      exact ⟨a, b, rfl⟩

set_option maxRecDepth 100000 in
theorem valueL_in {fuel : Nat} {cs : List Value} {x : DataW H × List MemPlace} (h : DataW.trod enc Tryz.prog W base spare held fuel 41 cs = some x) :
    ∃ (ch at_ : Int), cs = [.int .i64 ch, .int .i64 at_] := by
  obtain ⟨xs, n, -, -, hl, hxl, hf⟩ := DataW.trod_struct Tryz.underlying41 h
  have kc : cs.length = 2 := hl.trans (by kernel_rfl)
  match cs, kc with
  | [c0, c1], _ =>
    match xs, hxl with
    | [y0, y1], _ =>
      have k0 : Tryz.prog.cellsOf 3 = 1 := by kernel_rfl
      have h0 : DataW.trod enc Tryz.prog W base spare held n 3 [c0] = some y0 := by
        have h : DataW.trod enc Tryz.prog W base spare held n 3 (List.take (Tryz.prog.cellsOf 3) (List.drop 0 [c0, c1])) = [y0, y1][0]? := hf 0 _ rfl
        rw [k0] at h
        exact h
      have k1 : Tryz.prog.cellsOf 3 = 1 := by kernel_rfl
      have h1 : DataW.trod enc Tryz.prog W base spare held n 3 [c1] = some y1 := by
        have h : DataW.trod enc Tryz.prog W base spare held n 3 (List.take (Tryz.prog.cellsOf 3) (List.drop 1 [c0, c1])) = [y0, y1][1]? := hf 1 _ rfl
        rw [k1] at h
        exact h
      obtain ⟨a, e0, -, w0⟩ := DataW.trod_int Tryz.underlying3 h0
      obtain rfl := (List.cons.inj e0).1
      obtain ⟨b, e1, -, w1⟩ := DataW.trod_int Tryz.underlying3 h1
      obtain rfl := (List.cons.inj e1).1
      exact ⟨a, b, rfl⟩

set_option maxRecDepth 100000 in
theorem moveL_in {fuel : Nat} {cs : List Value} {x : DataW H × List MemPlace} (h : DataW.trod enc Tryz.prog W base spare held fuel 61 cs = some x) :
    ∃ y : Mv, cs = encMv y := by
  obtain ⟨xs, n, -, -, hl, hxl, hf⟩ := DataW.trod_struct Tryz.underlying61 h
  have kc : cs.length = 5 := hl.trans (by kernel_rfl)
  match cs, kc with
  | [c0, c1, c2, c3, c4], _ =>
    match xs, hxl with
    | [y0, y1, y2], _ =>
      have k0 : Tryz.prog.cellsOf 39 = 2 := by kernel_rfl
      have h0 : DataW.trod enc Tryz.prog W base spare held n 39 [c0, c1] = some y0 := by
        have h : DataW.trod enc Tryz.prog W base spare held n 39 (List.take (Tryz.prog.cellsOf 39) (List.drop 0 [c0, c1, c2, c3, c4])) = [y0, y1, y2][0]? := hf 0 _ rfl
        rw [k0] at h
        exact h
      have k1 : Tryz.prog.cellsOf 41 = 2 := by kernel_rfl
      have h1 : DataW.trod enc Tryz.prog W base spare held n 41 [c2, c3] = some y1 := by
        have h : DataW.trod enc Tryz.prog W base spare held n 41 (List.take (Tryz.prog.cellsOf 41) (List.drop 2 [c0, c1, c2, c3, c4])) = [y0, y1, y2][1]? := hf 1 _ rfl
        rw [k1] at h
        exact h
      have k2 : Tryz.prog.cellsOf 3 = 1 := by kernel_rfl
      have h2 : DataW.trod enc Tryz.prog W base spare held n 3 [c4] = some y2 := by
        have h : DataW.trod enc Tryz.prog W base spare held n 3 (List.take (Tryz.prog.cellsOf 3) (List.drop 4 [c0, c1, c2, c3, c4])) = [y0, y1, y2][2]? := hf 2 _ rfl
        rw [k2] at h
        exact h
      obtain ⟨a, b, e0⟩ := paramL_in h0
      simp only [List.cons.injEq, and_true] at e0
      obtain ⟨rfl, rfl⟩ := e0
      obtain ⟨pa, lv, e1⟩ := valueL_in h1
      simp only [List.cons.injEq, and_true] at e1
      obtain ⟨rfl, rfl⟩ := e1
      obtain ⟨pt, e2, -, w2⟩ := DataW.trod_int Tryz.underlying3 h2
      obtain rfl := (List.cons.inj e2).1
      exact ⟨⟨a, b, pa, lv, pt⟩, rfl⟩

set_option maxRecDepth 100000 in
theorem timeL_in {fuel : Nat} {cs : List Value} {x : DataW H × List MemPlace} (h : DataW.trod enc Tryz.prog W base spare held fuel 91 cs = some x) :
    ∃ y : Tm, cs = encTm y := by
  obtain ⟨xs, n, -, -, hl, hxl, hf⟩ := DataW.trod_struct Tryz.underlying91 h
  have kc : cs.length = 6 := hl.trans (by kernel_rfl)
  match cs, kc with
  | [c0, c1, c2, c3, c4, c5], _ =>
    match xs, hxl with
    | [y0, y1, y2, y3, y4, y5], _ =>
      have k0 : Tryz.prog.cellsOf 3 = 1 := by kernel_rfl
      have h0 : DataW.trod enc Tryz.prog W base spare held n 3 [c0] = some y0 := by
        have h : DataW.trod enc Tryz.prog W base spare held n 3 (List.take (Tryz.prog.cellsOf 3) (List.drop 0 [c0, c1, c2, c3, c4, c5])) = [y0, y1, y2, y3, y4, y5][0]? := hf 0 _ rfl
        rw [k0] at h
        exact h
      have k1 : Tryz.prog.cellsOf 3 = 1 := by kernel_rfl
      have h1 : DataW.trod enc Tryz.prog W base spare held n 3 [c1] = some y1 := by
        have h : DataW.trod enc Tryz.prog W base spare held n 3 (List.take (Tryz.prog.cellsOf 3) (List.drop 1 [c0, c1, c2, c3, c4, c5])) = [y0, y1, y2, y3, y4, y5][1]? := hf 1 _ rfl
        rw [k1] at h
        exact h
      have k2 : Tryz.prog.cellsOf 3 = 1 := by kernel_rfl
      have h2 : DataW.trod enc Tryz.prog W base spare held n 3 [c2] = some y2 := by
        have h : DataW.trod enc Tryz.prog W base spare held n 3 (List.take (Tryz.prog.cellsOf 3) (List.drop 2 [c0, c1, c2, c3, c4, c5])) = [y0, y1, y2, y3, y4, y5][2]? := hf 2 _ rfl
        rw [k2] at h
        exact h
      have k3 : Tryz.prog.cellsOf 3 = 1 := by kernel_rfl
      have h3 : DataW.trod enc Tryz.prog W base spare held n 3 [c3] = some y3 := by
        have h : DataW.trod enc Tryz.prog W base spare held n 3 (List.take (Tryz.prog.cellsOf 3) (List.drop 3 [c0, c1, c2, c3, c4, c5])) = [y0, y1, y2, y3, y4, y5][3]? := hf 3 _ rfl
        rw [k3] at h
        exact h
      have k4 : Tryz.prog.cellsOf 3 = 1 := by kernel_rfl
      have h4 : DataW.trod enc Tryz.prog W base spare held n 3 [c4] = some y4 := by
        have h : DataW.trod enc Tryz.prog W base spare held n 3 (List.take (Tryz.prog.cellsOf 3) (List.drop 4 [c0, c1, c2, c3, c4, c5])) = [y0, y1, y2, y3, y4, y5][4]? := hf 4 _ rfl
        rw [k4] at h
        exact h
      have k5 : Tryz.prog.cellsOf 3 = 1 := by kernel_rfl
      have h5 : DataW.trod enc Tryz.prog W base spare held n 3 [c5] = some y5 := by
        have h : DataW.trod enc Tryz.prog W base spare held n 3 (List.take (Tryz.prog.cellsOf 3) (List.drop 5 [c0, c1, c2, c3, c4, c5])) = [y0, y1, y2, y3, y4, y5][5]? := hf 5 _ rfl
        rw [k5] at h
        exact h
      obtain ⟨z0, e0, -, w0⟩ := DataW.trod_int Tryz.underlying3 h0
      obtain rfl := (List.cons.inj e0).1
      obtain ⟨z1, e1, -, w1⟩ := DataW.trod_int Tryz.underlying3 h1
      obtain rfl := (List.cons.inj e1).1
      obtain ⟨z2, e2, -, w2⟩ := DataW.trod_int Tryz.underlying3 h2
      obtain rfl := (List.cons.inj e2).1
      obtain ⟨z3, e3, -, w3⟩ := DataW.trod_int Tryz.underlying3 h3
      obtain rfl := (List.cons.inj e3).1
      obtain ⟨z4, e4, -, w4⟩ := DataW.trod_int Tryz.underlying3 h4
      obtain rfl := (List.cons.inj e4).1
      obtain ⟨z5, e5, -, w5⟩ := DataW.trod_int Tryz.underlying3 h5
      obtain rfl := (List.cons.inj e5).1
      exact ⟨⟨z0, z1, z2, z3, z4, z5⟩, rfl⟩

theorem movesL_in {fuel : Nat} {cs : List Value} {x : DataW H × List MemPlace} (h : DataW.trod enc Tryz.prog W base spare held fuel 29 cs = some x) : ∃ (p : Option Addr) (c : Nat) (l : List Mv), cs = [.slice p l.length c] ∧ RowX encMv 5 W p l ∧ l.length ≤ c := by
  obtain ⟨l, p, c, rfl, hl, hm, hc⟩ := open_els Tryz.underlying29 5 (by kernel_rfl) (by omega) (default : Mv) (fun cs y => cs = encMv y) (fun _ _ _ h => moveL_in h) h
  refine ⟨p, c, l, rfl, fun hn => ?_, hl⟩
  obtain ⟨b, o, hp, hb, hc⟩ := hc hn
  refine ⟨b, o, hp, hb, fun i hi j u hu => ?_⟩
  obtain ⟨cs', rfl, h1⟩ := hc i hi
  rw [List.getElem?_eq_getElem hi] at h1
  exact h1 j u hu

theorem timesL_in {fuel : Nat} {cs : List Value} {x : DataW H × List MemPlace} (h : DataW.trod enc Tryz.prog W base spare held fuel 30 cs = some x) : ∃ (p : Option Addr) (c : Nat) (l : List Tm), cs = [.slice p l.length c] ∧ RowX encTm 6 W p l ∧ l.length ≤ c := by
  obtain ⟨l, p, c, rfl, hl, hm, hc⟩ := open_els Tryz.underlying30 6 (by kernel_rfl) (by omega) (default : Tm) (fun cs y => cs = encTm y) (fun _ _ _ h => timeL_in h) h
  refine ⟨p, c, l, rfl, fun hn => ?_, hl⟩
  obtain ⟨b, o, hp, hb, hc⟩ := hc hn
  refine ⟨b, o, hp, hb, fun i hi j u hu => ?_⟩
  obtain ⟨cs', rfl, h1⟩ := hc i hi
  rw [List.getElem?_eq_getElem hi] at h1
  exact h1 j u hu

set_option maxRecDepth 100000 in
theorem cueL_in {fuel : Nat} {cs : List Value} {x : DataW H × List MemPlace} (h : DataW.trod enc Tryz.prog W base spare held fuel 32 cs = some x) :
    ∃ x : CuL, cs = encCu x ∧ CuAt W x := by
  obtain ⟨xs, n, -, -, hl, hxl, hf⟩ := DataW.trod_struct Tryz.underlying32 h
  have kc : cs.length = 9 := hl.trans (by kernel_rfl)
  match cs, kc with
  | [c0, c1, c2, c3, c4, c5, c6, c7, c8], _ =>
    match xs, hxl with
    | [y0, y1, y2, y3, y4, y5, y6, y7, y8], _ =>
      have k0 : Tryz.prog.cellsOf 9 = 1 := by kernel_rfl
      have h0 : DataW.trod enc Tryz.prog W base spare held n 9 [c0] = some y0 := by
        have h : DataW.trod enc Tryz.prog W base spare held n 9 (List.take (Tryz.prog.cellsOf 9) (List.drop 0 [c0, c1, c2, c3, c4, c5, c6, c7, c8])) = [y0, y1, y2, y3, y4, y5, y6, y7, y8][0]? := hf 0 _ rfl
        rw [k0] at h
        exact h
      have k1 : Tryz.prog.cellsOf 9 = 1 := by kernel_rfl
      have h1 : DataW.trod enc Tryz.prog W base spare held n 9 [c1] = some y1 := by
        have h : DataW.trod enc Tryz.prog W base spare held n 9 (List.take (Tryz.prog.cellsOf 9) (List.drop 1 [c0, c1, c2, c3, c4, c5, c6, c7, c8])) = [y0, y1, y2, y3, y4, y5, y6, y7, y8][1]? := hf 1 _ rfl
        rw [k1] at h
        exact h
      have k2 : Tryz.prog.cellsOf 29 = 1 := by kernel_rfl
      have h2 : DataW.trod enc Tryz.prog W base spare held n 29 [c2] = some y2 := by
        have h : DataW.trod enc Tryz.prog W base spare held n 29 (List.take (Tryz.prog.cellsOf 29) (List.drop 2 [c0, c1, c2, c3, c4, c5, c6, c7, c8])) = [y0, y1, y2, y3, y4, y5, y6, y7, y8][2]? := hf 2 _ rfl
        rw [k2] at h
        exact h
      have k3 : Tryz.prog.cellsOf 30 = 1 := by kernel_rfl
      have h3 : DataW.trod enc Tryz.prog W base spare held n 30 [c3] = some y3 := by
        have h : DataW.trod enc Tryz.prog W base spare held n 30 (List.take (Tryz.prog.cellsOf 30) (List.drop 3 [c0, c1, c2, c3, c4, c5, c6, c7, c8])) = [y0, y1, y2, y3, y4, y5, y6, y7, y8][3]? := hf 3 _ rfl
        rw [k3] at h
        exact h
      have k4 : Tryz.prog.cellsOf 4 = 1 := by kernel_rfl
      have h4 : DataW.trod enc Tryz.prog W base spare held n 4 [c4] = some y4 := by
        have h : DataW.trod enc Tryz.prog W base spare held n 4 (List.take (Tryz.prog.cellsOf 4) (List.drop 4 [c0, c1, c2, c3, c4, c5, c6, c7, c8])) = [y0, y1, y2, y3, y4, y5, y6, y7, y8][4]? := hf 4 _ rfl
        rw [k4] at h
        exact h
      have k5 : Tryz.prog.cellsOf 4 = 1 := by kernel_rfl
      have h5 : DataW.trod enc Tryz.prog W base spare held n 4 [c5] = some y5 := by
        have h : DataW.trod enc Tryz.prog W base spare held n 4 (List.take (Tryz.prog.cellsOf 4) (List.drop 5 [c0, c1, c2, c3, c4, c5, c6, c7, c8])) = [y0, y1, y2, y3, y4, y5, y6, y7, y8][5]? := hf 5 _ rfl
        rw [k5] at h
        exact h
      have k6 : Tryz.prog.cellsOf 3 = 1 := by kernel_rfl
      have h6 : DataW.trod enc Tryz.prog W base spare held n 3 [c6] = some y6 := by
        have h : DataW.trod enc Tryz.prog W base spare held n 3 (List.take (Tryz.prog.cellsOf 3) (List.drop 6 [c0, c1, c2, c3, c4, c5, c6, c7, c8])) = [y0, y1, y2, y3, y4, y5, y6, y7, y8][6]? := hf 6 _ rfl
        rw [k6] at h
        exact h
      have k7 : Tryz.prog.cellsOf 9 = 1 := by kernel_rfl
      have h7 : DataW.trod enc Tryz.prog W base spare held n 9 [c7] = some y7 := by
        have h : DataW.trod enc Tryz.prog W base spare held n 9 (List.take (Tryz.prog.cellsOf 9) (List.drop 7 [c0, c1, c2, c3, c4, c5, c6, c7, c8])) = [y0, y1, y2, y3, y4, y5, y6, y7, y8][7]? := hf 7 _ rfl
        rw [k7] at h
        exact h
      have k8 : Tryz.prog.cellsOf 3 = 1 := by kernel_rfl
      have h8 : DataW.trod enc Tryz.prog W base spare held n 3 [c8] = some y8 := by
        have h : DataW.trod enc Tryz.prog W base spare held n 3 (List.take (Tryz.prog.cellsOf 3) (List.drop 8 [c0, c1, c2, c3, c4, c5, c6, c7, c8])) = [y0, y1, y2, y3, y4, y5, y6, y7, y8][8]? := hf 8 _ rfl
        rw [k8] at h
        exact h
      obtain ⟨s0, e0, -, w0⟩ := DataW.trod_string Tryz.underlying9 h0
      obtain rfl := (List.cons.inj e0).1
      obtain ⟨nu, es0⟩ := str_of s0
      subst es0
      obtain ⟨s1, e1, -, w1⟩ := DataW.trod_string Tryz.underlying9 h1
      obtain rfl := (List.cons.inj e1).1
      obtain ⟨la, es1⟩ := str_of s1
      subst es1
      obtain ⟨pm, cm, m, e2, rm, qm⟩ := movesL_in h2
      obtain rfl := (List.cons.inj e2).1
      obtain ⟨pt, ct, t, e3, rt, qt⟩ := timesL_in h3
      obtain rfl := (List.cons.inj e3).1
      obtain ⟨bl, e4, -⟩ := DataW.trod_bool Tryz.underlying4 h4
      obtain rfl := (List.cons.inj e4).1
      obtain ⟨mk, e5, -⟩ := DataW.trod_bool Tryz.underlying4 h5
      obtain rfl := (List.cons.inj e5).1
      obtain ⟨fo, e6, -, w6⟩ := DataW.trod_int Tryz.underlying3 h6
      obtain rfl := (List.cons.inj e6).1
      obtain ⟨s7, e7, -, w7⟩ := DataW.trod_string Tryz.underlying9 h7
      obtain rfl := (List.cons.inj e7).1
      obtain ⟨li, es7⟩ := str_of s7
      subst es7
      obtain ⟨lo, e8, -, w8⟩ := DataW.trod_int Tryz.underlying3 h8
      obtain rfl := (List.cons.inj e8).1
      exact ⟨⟨⟨nu, la, m, t, bl, mk, fo, li, lo⟩, pm, cm, pt, ct⟩, rfl, ⟨rm, rt, qm⟩⟩

theorem cuesL_in {fuel : Nat} {cs : List Value} {x : DataW H × List MemPlace} (h : DataW.trod enc Tryz.prog W base spare held fuel 22 cs = some x) : ∃ (p : Option Addr) (c : Nat) (l : List CuL), cs = [.slice p l.length c] ∧ CusAt W p l := by
  obtain ⟨l, p, c, rfl, hl, hm, hc⟩ := open_els Tryz.underlying22 9 (by kernel_rfl) (by omega) (default : CuL) (fun cs y => cs = encCu y ∧ CuAt W y) (fun _ _ _ h => cueL_in h) h
  refine ⟨p, c, l, rfl, fun hn => ?_, fun x hx => ?_⟩
  · obtain ⟨b, o, hp, hb, hc⟩ := hc hn
    refine ⟨b, o, hp, hb, fun i hi j u hu => ?_⟩
    obtain ⟨cs', ⟨rfl, -⟩, h1⟩ := hc i hi
    rw [List.getElem?_eq_getElem hi] at h1
    exact h1 j u hu
  · obtain ⟨i, hi, rfl⟩ := List.getElem_of_mem hx
    obtain ⟨b, o, hp, hb, hc⟩ := hc (fun e => by rw [e] at hi; exact absurd hi (Nat.not_lt_zero _))
    obtain ⟨cs', ⟨-, hq⟩, -⟩ := hc i hi
    rw [List.getElem?_eq_getElem hi, Option.getD_some] at hq
    exact hq

set_option maxRecDepth 100000 in
theorem listL_in {fuel : Nat} {cs : List Value} {x : DataW H × List MemPlace} (h : DataW.trod enc Tryz.prog W base spare held fuel 24 cs = some x) :
    ∃ (num pri : Int) (p : Option Addr) (c : Nat) (L : List CuL), cs = [.int .i64 num, .int .i64 pri, .slice p L.length c] ∧ CusAt W p L := by
  obtain ⟨xs, n, -, -, hl, hxl, hf⟩ := DataW.trod_struct Tryz.underlying24 h
  have kc : cs.length = 3 := hl.trans (by kernel_rfl)
  match cs, kc with
  | [c0, c1, c2], _ =>
    match xs, hxl with
    | [y0, y1, y2], _ =>
      have k0 : Tryz.prog.cellsOf 3 = 1 := by kernel_rfl
      have h0 : DataW.trod enc Tryz.prog W base spare held n 3 [c0] = some y0 := by
        have h : DataW.trod enc Tryz.prog W base spare held n 3 (List.take (Tryz.prog.cellsOf 3) (List.drop 0 [c0, c1, c2])) = [y0, y1, y2][0]? := hf 0 _ rfl
        rw [k0] at h
        exact h
      have k1 : Tryz.prog.cellsOf 3 = 1 := by kernel_rfl
      have h1 : DataW.trod enc Tryz.prog W base spare held n 3 [c1] = some y1 := by
        have h : DataW.trod enc Tryz.prog W base spare held n 3 (List.take (Tryz.prog.cellsOf 3) (List.drop 1 [c0, c1, c2])) = [y0, y1, y2][1]? := hf 1 _ rfl
        rw [k1] at h
        exact h
      have k2 : Tryz.prog.cellsOf 22 = 1 := by kernel_rfl
      have h2 : DataW.trod enc Tryz.prog W base spare held n 22 [c2] = some y2 := by
        have h : DataW.trod enc Tryz.prog W base spare held n 22 (List.take (Tryz.prog.cellsOf 22) (List.drop 2 [c0, c1, c2])) = [y0, y1, y2][2]? := hf 2 _ rfl
        rw [k2] at h
        exact h
      obtain ⟨num, e0, -, w0⟩ := DataW.trod_int Tryz.underlying3 h0
      obtain rfl := (List.cons.inj e0).1
      obtain ⟨pri, e1, -, w1⟩ := DataW.trod_int Tryz.underlying3 h1
      obtain rfl := (List.cons.inj e1).1
      obtain ⟨p, c, L, e2, h5⟩ := cuesL_in h2
      obtain rfl := (List.cons.inj e2).1
      exact ⟨num, pri, p, c, L, rfl, h5⟩

variable {r : Reach} {b0 : Nat} {v : Value} {d : DataW H} {p : List MemPlace}
set_option maxRecDepth 100000 in
theorem open_list (hv : Value.okWide Tryz.prog W r b0 24 v) (h : DataW.Trod enc Tryz.prog W base spare held 24 v d p) : ∃ (num pri : Int) (q : Option Addr) (c : Nat) (L : List CuL), v = .agg #[.int .i64 num, .int .i64 pri, .slice q L.length c] ∧ CusAt W q L := by
  obtain ⟨cs, rfl, hsz⟩ := okWide_struct Tryz.underlying24 hv
  obtain ⟨l⟩ := cs
  obtain ⟨fuel, hf⟩ := h
  obtain ⟨num, pri, q, c, L, h1, h2⟩ := listL_in hf
  exact ⟨num, pri, q, c, L, by simpa [Value.cells] using h1, h2⟩
set_option maxRecDepth 100000 in
theorem open_three (hv : Value.okWide Tryz.prog W r b0 25 v) (h : DataW.Trod enc Tryz.prog W base spare held 25 v d p) : ∃ a b c : Int, v = .agg #[.int .u8 a, .int .u8 b, .int .u8 c] ∧ (0 ≤ a ∧ a ≤ 255) ∧ (0 ≤ b ∧ b ≤ 255) ∧ (0 ≤ c ∧ c ≤ 255) := by
  simp only [Value.okWide, Tryz.underlying25] at hv
  obtain ⟨cs, rfl, hsz, -⟩ := hv
  obtain ⟨l⟩ := cs
  obtain ⟨fuel, hf⟩ := h
  have hk : l.length = 3 := hsz.trans (by kernel_rfl)
  match l, hk with
  | [c0, c1, c2], _ =>
    obtain ⟨y0, y1, y2, n, -, h0, h1, h2⟩ := trod_array3 Tryz.underlying25 (by kernel_rfl) (show DataW.trod enc Tryz.prog W base spare held fuel 25 [c0, c1, c2] = some _ from hf)
    obtain ⟨a, e0, -, w0⟩ := DataW.trod_int Tryz.underlying5 h0
    obtain rfl := (List.cons.inj e0).1
    obtain ⟨b, e1, -, w1⟩ := DataW.trod_int Tryz.underlying5 h1
    obtain rfl := (List.cons.inj e1).1
    obtain ⟨c, e2, -, w2⟩ := DataW.trod_int Tryz.underlying5 h2
    obtain rfl := (List.cons.inj e2).1
    exact ⟨a, b, c, rfl, wf_u8 w0, wf_u8 w1, wf_u8 w2⟩
end
end Go.Proofs.YtikogofioggmlaaGreatDoor
