/-
  Arguments of any make, read again in a world that leaves the old memory as it was. Submasters, faders and masters handed in, opened. A movement and a source handed in, opened. A movement and a place handed in, opened.
-/
import Derived.Test.YtkjelfmgnkkijaaGreatDoorQfRow
import Derived.Carry
import Derived.WideKeyArgs
import Derived.Test.YtkjelfmgnkkijaaGreatDoorQfSw
import Derived.Deep.Slices
set_option linter.unusedVariables false
set_option linter.unusedSimpArgs false
namespace Go.Proofs.YtkjelfmgnkkijaaGreatDoor
open Go.ChangeShapes Go.WideShapes Go.ChangeAt Go.RowKit Go.Joins Lum
theorem trodAll_stays {H : Type} {enc : TypeId × Value → H} {P : Program} (hl : laidOutB P = true) {W W' : World} {sp' : Nat → Bool} :
    ∀ {ts : List TypeId} {vs : List Value} {ds : List (DataW H)} {ps : List MemPlace}, (∀ t ∈ ts, P.readableRec t = true ∧ t < P.types.size) → DataW.TrodAll enc P W 0 (fun _ => true) true ts vs ds ps →
      (∀ p ∈ ps, W.sameAt W' p) → (∀ p ∈ ps, sp' p.block = true) → DataW.TrodAll enc P W' 0 sp' true ts vs ds ps
  | [], _, _, _, _, h, _, _ => by
    obtain ⟨rfl, rfl, rfl⟩ := trodAll_nil h
    exact trodAll_mk0
  | t :: ts, _, _, _, hT, h, hs, hp => by
    obtain ⟨v, vs', d, ds', p, q, rfl, rfl, rfl, h1, h2⟩ := trodAll_cons h
    exact trodAll_cons_mk (Go.WideElems.Trod_stays hl (hT t (List.mem_cons_self)).1 (hT t (List.mem_cons_self)).2 h1 (fun x hx => hs x (List.mem_append_left _ hx)) (fun x hx => hp x (List.mem_append_left _ hx)))
      (trodAll_stays hl (fun t' h' => hT t' (List.mem_cons_of_mem _ h')) h2 (fun x hx => hs x (List.mem_append_right _ hx)) (fun x hx => hp x (List.mem_append_right _ hx)))
end Go.Proofs.YtkjelfmgnkkijaaGreatDoor
namespace Go.Proofs.YtkjelfmgnkkijaaGreatDoor


open Go.RowKit Go.Shelf Lum Go.ChangeShapes Go.WideShapes Go.ChangeAt Go.Joins
/-- A slice whose elements are read by R. -/
theorem open_els {α : Type} {P : Program} {H : Type} {enc : TypeId × Value → H} {W : World} {base : Nat} {spare : Nat → Bool} {held : Bool} {t e : TypeId} (ht : P.underlying t = some (.slice e)) (k : Nat) (hk : P.cellsOf e = k) (hk0 : 0 < k) (dd : α) (R : List Value → α → Prop)
    (hin : ∀ n cs x, DataW.trod enc P W base spare held n e cs = some x → ∃ a, R cs a) {fuel : Nat} {cs : List Value} {x : DataW H × List MemPlace} (h : DataW.trod enc P W base spare held fuel t cs = some x) :
    ∃ (l : List α) (p : Option Addr) (c : Nat), cs = [.slice p l.length c] ∧ l.length ≤ c ∧ c ≤ maxLen ∧ (l ≠ [] → ∃ b o, p = some ⟨b, o, none⟩ ∧ b < W.heap.size ∧ ∀ i, i < l.length → ∃ cs', R cs' (l[i]?.getD dd) ∧ ∀ j v, cs'[j]? = some v → W.cell? ⟨b, o + i * k + j, none⟩ = some v) := by
  rcases Go.Deep.open_slice ht h with ⟨rfl, -⟩ | ⟨a, len, cap, m, n, D, Pl, rfl, hb, hl, hm, hmm, -, hx⟩
  · exact ⟨[], none, 0, rfl, Nat.le_refl _, by simp, fun h => absurd rfl h⟩
  · have hlm : len ≤ m := by rw [hmm]; split <;> omega
    rw [hk] at hx
    have key : ∀ i, ∃ q : α, i < m → ∃ cs', R cs' q ∧ 0 < cs'.length ∧ ∀ j v, cs'[j]? = some v → W.cell? ((a.add (i * k)).add j) = some v := by
      intro i
      by_cases hi : i < m
      · obtain ⟨cs', h1, h2⟩ := hx i hi
        obtain ⟨q, hq⟩ := hin _ _ _ h2
        obtain ⟨-, hcl, hat⟩ := World.cells?_some h1
        refine ⟨q, fun _ => ⟨cs', hq, by omega, fun j v hj => ?_⟩⟩
        have hjl := (List.getElem?_eq_some_iff.1 hj).1
        rw [hat j (by omega), hj]
      · exact ⟨dd, fun h => absurd h hi⟩
    obtain ⟨q, hq⟩ := Classical.axiomOfChoice key
    have hlen : ((List.range len).map q).length = len := by simp
    refine ⟨(List.range len).map q, some a, cap, by rw [hlen], by rw [hlen]; exact hl, hm, fun hne => ?_⟩
    have h0 : 0 < len := by
      rcases Nat.eq_zero_or_pos len with h | h
      · subst h; exact absurd rfl hne
      · exact h
    obtain ⟨b, off, spot⟩ := a
    have hspot : spot = none := by
      obtain ⟨cs', -, h2, h3⟩ := hq 0 (by omega)
      have := h3 0 _ (List.getElem?_eq_getElem h2)
      rw [Nat.zero_mul] at this
      simpa [Addr.add] using World.cell?_spot this
    subst hspot
    refine ⟨b, off, rfl, ?_, fun i hi => ?_⟩
    · obtain ⟨cs', -, h2, h3⟩ := hq 0 (by omega)
      have := h3 0 _ (List.getElem?_eq_getElem h2)
      rw [add_plain, add_plain] at this
      exact World.block_lt_of_cell? W _ this
    · rw [hlen] at hi
      obtain ⟨cs', h1, -, h3⟩ := hq i (by omega)
      refine ⟨cs', ?_, fun j v hj => ?_⟩
      · simpa [hi] using h1
      · have := h3 j v hj
        rw [add_plain, add_plain] at this
        exact this
section
variable {H : Type} {enc : TypeId × Value → H} {W : World} {base : Nat} {spare : Nat → Bool} {held : Bool}
set_option maxRecDepth 100000 in
theorem param_in {fuel : Nat} {cs : List Value} {x : DataW H × List MemPlace} (h : DataW.trod enc Tryz.prog W base spare held fuel 72 cs = some x) :
    ∃ (ch at_ : Int), cs = [.int .i64 ch, .int .i64 at_] ∧ (-9223372036854775808 ≤ ch ∧ ch ≤ 9223372036854775807) ∧ (-9223372036854775808 ≤ at_ ∧ at_ ≤ 9223372036854775807) := by
  obtain ⟨xs, n, -, -, hl, hxl, hf⟩ := DataW.trod_struct Tryz.underlying72 h
  have kc : cs.length = 2 := hl.trans (by kernel_rfl)
  match cs, kc with
  | [c0, c1], _ =>
    match xs, hxl with
    | [y0, y1], _ =>
      have k0 : Tryz.prog.cellsOf 3 = 1 := by kernel_rfl
      have h0 : DataW.trod enc Tryz.prog W base spare held n 3 [c0] = some y0 := by
        have h : DataW.trod enc Tryz.prog W base spare held n 3 (List.take (Tryz.prog.cellsOf 3) (List.drop 0 [c0, c1])) = [y0, y1][0]? := hf 0 _ rfl
        rw [k0] at h
        exact h
      have k1 : Tryz.prog.cellsOf 3 = 1 := by kernel_rfl
      have h1 : DataW.trod enc Tryz.prog W base spare held n 3 [c1] = some y1 := by
        have h : DataW.trod enc Tryz.prog W base spare held n 3 (List.take (Tryz.prog.cellsOf 3) (List.drop 1 [c0, c1])) = [y0, y1][1]? := hf 1 _ rfl
        rw [k1] at h
        exact h
      obtain ⟨a, e0, -, w0⟩ := DataW.trod_int Tryz.underlying3 h0
      obtain rfl := (List.cons.inj e0).1
      obtain ⟨b, e1, -, w1⟩ := DataW.trod_int Tryz.underlying3 h1
      obtain rfl := (List.cons.inj e1).1
      exact ⟨a, b, rfl, wf_i64 w0, wf_i64 w1⟩

set_option maxRecDepth 100000 in
theorem gain_in {fuel : Nat} {cs : List Value} {x : DataW H × List MemPlace} (h : DataW.trod enc Tryz.prog W base spare held fuel 85 cs = some x) :
    ∃ g : Gn, cs = [.int .i64 g.ch, .int .i64 g.at_, .int .i64 g.lev] := by
  obtain ⟨xs, n, -, -, hl, hxl, hf⟩ := DataW.trod_struct Tryz.underlying85 h
  have kc : cs.length = 3 := hl.trans (by kernel_rfl)
  match cs, kc with
  | [c0, c1, c2], _ =>
    match xs, hxl with
    | [y0, y1], _ =>
      have k0 : Tryz.prog.cellsOf 72 = 2 := by kernel_rfl
      have h0 : DataW.trod enc Tryz.prog W base spare held n 72 [c0, c1] = some y0 := by
        have h : DataW.trod enc Tryz.prog W base spare held n 72 (List.take (Tryz.prog.cellsOf 72) (List.drop 0 [c0, c1, c2])) = [y0, y1][0]? := hf 0 _ rfl
        rw [k0] at h
        exact h
      have k1 : Tryz.prog.cellsOf 3 = 1 := by kernel_rfl
      have h1 : DataW.trod enc Tryz.prog W base spare held n 3 [c2] = some y1 := by
        have h : DataW.trod enc Tryz.prog W base spare held n 3 (List.take (Tryz.prog.cellsOf 3) (List.drop 2 [c0, c1, c2])) = [y0, y1][1]? := hf 1 _ rfl
        rw [k1] at h
        exact h
      obtain ⟨a, b, e0, -, -⟩ := param_in h0
      simp only [List.cons.injEq, and_true] at e0
      obtain ⟨rfl, rfl⟩ := e0
      obtain ⟨c, e2, -, w2⟩ := DataW.trod_int Tryz.underlying3 h1
      obtain rfl := (List.cons.inj e2).1
      exact ⟨⟨a, b, c⟩, rfl⟩

theorem gains_in {fuel : Nat} {cs : List Value} {x : DataW H × List MemPlace} (h : DataW.trod enc Tryz.prog W base spare held fuel 56 cs = some x) : ∃ (gv : Value) (gs : List Gn), cs = [gv] ∧ GnsAt W gv gs := by
  obtain ⟨l, p, c, rfl, hl, -, hc⟩ := open_els Tryz.underlying56 3 (by kernel_rfl) (by omega) (⟨0, 0, 0⟩ : Gn) (fun cs g => cs = [.int .i64 g.ch, .int .i64 g.at_, .int .i64 g.lev]) (fun _ _ _ h => gain_in h) h
  refine ⟨_, l, rfl, p, c, rfl, hl, fun hn => ?_⟩
  obtain ⟨b, o, hp, hb, hc⟩ := hc hn
  refine ⟨b, o, hp, hb, fun i hi => ?_⟩
  obtain ⟨cs', rfl, h1⟩ := hc i hi
  exact ⟨h1 0 _ rfl, h1 1 _ rfl, h1 2 _ rfl⟩

set_option maxRecDepth 100000 in
theorem sub_in {fuel : Nat} {cs : List Value} {x : DataW H × List MemPlace} (h : DataW.trod enc Tryz.prog W base spare held fuel 58 cs = some x) :
    ∃ (s : Sb) (gv : Value), cs = [.int .i64 s.nu, .int .i64 s.pr, .bool s.inh, gv] ∧ GnsAt W gv s.gs ∧ (-9223372036854775808 ≤ s.nu ∧ s.nu ≤ 9223372036854775807) ∧ (-9223372036854775808 ≤ s.pr ∧ s.pr ≤ 9223372036854775807) := by
  obtain ⟨xs, n, -, -, hl, hxl, hf⟩ := DataW.trod_struct Tryz.underlying58 h
  have kc : cs.length = 4 := hl.trans (by kernel_rfl)
  match cs, kc with
  | [c0, c1, c2, c3], _ =>
    match xs, hxl with
    | [y0, y1, y2, y3], _ =>
      have k0 : Tryz.prog.cellsOf 3 = 1 := by kernel_rfl
      have h0 : DataW.trod enc Tryz.prog W base spare held n 3 [c0] = some y0 := by
        have h : DataW.trod enc Tryz.prog W base spare held n 3 (List.take (Tryz.prog.cellsOf 3) (List.drop 0 [c0, c1, c2, c3])) = [y0, y1, y2, y3][0]? := hf 0 _ rfl
        rw [k0] at h
        exact h
      have k1 : Tryz.prog.cellsOf 3 = 1 := by kernel_rfl
      have h1 : DataW.trod enc Tryz.prog W base spare held n 3 [c1] = some y1 := by
        have h : DataW.trod enc Tryz.prog W base spare held n 3 (List.take (Tryz.prog.cellsOf 3) (List.drop 1 [c0, c1, c2, c3])) = [y0, y1, y2, y3][1]? := hf 1 _ rfl
        rw [k1] at h
        exact h
      have k2 : Tryz.prog.cellsOf 4 = 1 := by kernel_rfl
      have h2 : DataW.trod enc Tryz.prog W base spare held n 4 [c2] = some y2 := by
        have h : DataW.trod enc Tryz.prog W base spare held n 4 (List.take (Tryz.prog.cellsOf 4) (List.drop 2 [c0, c1, c2, c3])) = [y0, y1, y2, y3][2]? := hf 2 _ rfl
        rw [k2] at h
        exact h
      have k3 : Tryz.prog.cellsOf 56 = 1 := by kernel_rfl
      have h3 : DataW.trod enc Tryz.prog W base spare held n 56 [c3] = some y3 := by
        have h : DataW.trod enc Tryz.prog W base spare held n 56 (List.take (Tryz.prog.cellsOf 56) (List.drop 3 [c0, c1, c2, c3])) = [y0, y1, y2, y3][3]? := hf 3 _ rfl
        rw [k3] at h
        exact h
      obtain ⟨a, e0, -, w0⟩ := DataW.trod_int Tryz.underlying3 h0
      obtain rfl := (List.cons.inj e0).1
      obtain ⟨b, e1, -, w1⟩ := DataW.trod_int Tryz.underlying3 h1
      obtain rfl := (List.cons.inj e1).1
      obtain ⟨c, e2, -⟩ := DataW.trod_bool Tryz.underlying4 h2
      obtain rfl := (List.cons.inj e2).1
      obtain ⟨gv, gs, e3, hg⟩ := gains_in h3
      obtain rfl := (List.cons.inj e3).1
      exact ⟨⟨a, b, c, gs⟩, _, rfl, hg, wf_i64 w0, wf_i64 w1⟩

variable {r : Reach} {b0 : Nat} {v : Value} {d : DataW H} {p : List MemPlace}
set_option maxRecDepth 100000 in
theorem open_sub (hv : Value.okWide Tryz.prog W r b0 58 v) (h : DataW.Trod enc Tryz.prog W base spare held 58 v d p) : ∃ (s : Sb) (gv : Value), v = .agg #[.int .i64 s.nu, .int .i64 s.pr, .bool s.inh, gv] ∧ GnsAt W gv s.gs := by
  obtain ⟨cs, rfl, hsz⟩ := okWide_struct Tryz.underlying58 hv
  obtain ⟨l⟩ := cs
  obtain ⟨fuel, hf⟩ := h
  obtain ⟨s, gv, h1, h2, -, -⟩ := sub_in hf
  exact ⟨s, gv, by simpa [Value.cells] using h1, h2⟩
end
end Go.Proofs.YtkjelfmgnkkijaaGreatDoor
namespace Go.Proofs.YtkjelfmgnkkijaaGreatDoor


open Go.RowKit Go.Shelf Lum Go.ChangeShapes Go.WideShapes Go.ChangeAt Go.Joins
section
variable {H : Type} {enc : TypeId × Value → H} {W : World} {base : Nat} {spare : Nat → Bool} {held : Bool}
variable {r : Reach} {b0 : Nat} {v : Value} {d : DataW H} {p : List MemPlace}
end
end Go.Proofs.YtkjelfmgnkkijaaGreatDoor
namespace Go.Proofs.YtkjelfmgnkkijaaGreatDoor


open Go.RowKit Go.Shelf Lum Go.ChangeShapes Go.WideShapes Go.ChangeAt Go.Joins
section
variable {H : Type} {enc : TypeId × Value → H} {W : World} {base : Nat} {spare : Nat → Bool} {held : Bool}
variable {r : Reach} {b0 : Nat} {v : Value} {d : DataW H} {p : List MemPlace}
end
end Go.Proofs.YtkjelfmgnkkijaaGreatDoor
