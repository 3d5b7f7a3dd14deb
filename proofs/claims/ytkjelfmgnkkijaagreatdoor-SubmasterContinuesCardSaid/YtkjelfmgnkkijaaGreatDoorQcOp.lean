/-
  Arguments of any make, read again in a world that leaves the old memory as it was. Submasters, faders and masters handed in, opened. A movement and a source handed in, opened. A movement and a place handed in, opened.
-/
import Derived.Test.YtkjelfmgnkkijaaGreatDoorRow
import Derived.Carry
import Derived.WideKeyArgs
import Derived.Test.YtkjelfmgnkkijaaGreatDoorSw
import Derived.Deep.Slices
set_option linter.unusedVariables false
set_option linter.unusedSimpArgs false
namespace Go.Proofs.YtkjelfmgnkkijaaGreatDoor
open Go.ChangeShapes Go.WideShapes Go.ChangeAt Go.RowKit Go.Joins Lum
theorem trodAll_stays {H : Type} {enc : TypeId × Value → H} {P : Program} (hl : laidOutB P = true) {W W' : World} {sp' : Nat → Bool} :
    ∀ {ts : List TypeId} {vs : List Value} {ds : List (DataW H)} {ps : List MemPlace}, (∀ t ∈ ts, P.readableRec t = true ∧ t < P.types.size) → DataW.TrodAll enc P W 0 (fun _ => true) true ts vs ds ps →
      (∀ p ∈ ps, W.sameAt W' p) → (∀ p ∈ ps, sp' p.block = true) → DataW.TrodAll enc P W' 0 sp' true ts vs ds ps
  | [], _, _, _, _, h, _, _ => by
    obtain ⟨rfl, rfl, rfl⟩ := trodAll_nil h
    exact trodAll_mk0
  | t :: ts, _, _, _, hT, h, hs, hp => by
    obtain ⟨v, vs', d, ds', p, q, rfl, rfl, rfl, h1, h2⟩ := trodAll_cons h
    exact trodAll_cons_mk (Go.WideElems.Trod_stays hl (hT t (List.mem_cons_self)).1 (hT t (List.mem_cons_self)).2 h1 (fun x hx => hs x (List.mem_append_left _ hx)) (fun x hx => hp x (List.mem_append_left _ hx)))
      (trodAll_stays hl (fun t' h' => hT t' (List.mem_cons_of_mem _ h')) h2 (fun x hx => hs x (List.mem_append_right _ hx)) (fun x hx => hp x (List.mem_append_right _ hx)))
end Go.Proofs.YtkjelfmgnkkijaaGreatDoor
namespace Go.Proofs.YtkjelfmgnkkijaaGreatDoor


open Go.RowKit Go.Shelf Lum Go.ChangeShapes Go.WideShapes Go.ChangeAt Go.Joins
/-- A slice whose elements are read by R. -/
theorem open_els {α : Type} {P : Program} {H : Type} {enc : TypeId × Value → H} {W : World} {base : Nat} {spare : Nat → Bool} {held : Bool} {t e : TypeId} (ht : P.underlying t = some (.slice e)) (k : Nat) (hk : P.cellsOf e = k) (hk0 : 0 < k) (dd : α) (R : List Value → α → Prop)
    (hin : ∀ n cs x, DataW.trod enc P W base spare held n e cs = some x → ∃ a, R cs a) {fuel : Nat} {cs : List Value} {x : DataW H × List MemPlace} (h : DataW.trod enc P W base spare held fuel t cs = some x) :
    ∃ (l : List α) (p : Option Addr) (c : Nat), cs = [.slice p l.length c] ∧ l.length ≤ c ∧ c ≤ maxLen ∧ (l ≠ [] → ∃ b o, p = some ⟨b, o, none⟩ ∧ b < W.heap.size ∧ ∀ i, i < l.length → ∃ cs', R cs' (l[i]?.getD dd) ∧ ∀ j v, cs'[j]? = some v → W.cell? ⟨b, o + i * k + j, none⟩ = some v) := by
  rcases Go.Deep.open_slice ht h with ⟨rfl, -⟩ | ⟨a, len, cap, m, n, D, Pl, rfl, hb, hl, hm, hmm, -, hx⟩
  · exact ⟨[], none, 0, rfl, Nat.le_refl _, by simp, fun h => absurd rfl h⟩
  · have hlm : len ≤ m := by rw [hmm]; split <;> omega
    rw [hk] at hx
    have key : ∀ i, ∃ q : α, i < m → ∃ cs', R cs' q ∧ 0 < cs'.length ∧ ∀ j v, cs'[j]? = some v → W.cell? ((a.add (i * k)).add j) = some v := by
      intro i
      by_cases hi : i < m
      · obtain ⟨cs', h1, h2⟩ := hx i hi
        obtain ⟨q, hq⟩ := hin _ _ _ h2
        obtain ⟨-, hcl, hat⟩ := World.cells?_some h1
        refine ⟨q, fun _ => ⟨cs', hq, by omega, fun j v hj => ?_⟩⟩
        have hjl := (List.getElem?_eq_some_iff.1 hj).1
        rw [hat j (by omega), hj]
      · exact ⟨dd, fun h => absurd h hi⟩
    obtain ⟨q, hq⟩ := Classical.axiomOfChoice key
    have hlen : ((List.range len).map q).length = len := by simp
    refine ⟨(List.range len).map q, some a, cap, by rw [hlen], by rw [hlen]; exact hl, hm, fun hne => ?_⟩
    have h0 : 0 < len := by
      rcases Nat.eq_zero_or_pos len with h | h
      · subst h; exact absurd rfl hne
      · exact h
    obtain ⟨b, off, spot⟩ := a
    have hspot : spot = none := by
      obtain ⟨cs', -, h2, h3⟩ := hq 0 (by omega)
      have := h3 0 _ (List.getElem?_eq_getElem h2)
      rw [Nat.zero_mul] at this
      simpa [Addr.add] using World.cell?_spot this
    subst hspot
    refine ⟨b, off, rfl, ?_, fun i hi => ?_⟩
    · obtain ⟨cs', -, h2, h3⟩ := hq 0 (by omega)
      have := h3 0 _ (List.getElem?_eq_getElem h2)
      rw [add_plain, add_plain] at this
      exact World.block_lt_of_cell? W _ this
    · rw [hlen] at hi
      obtain ⟨cs', h1, -, h3⟩ := hq i (by omega)
      refine ⟨cs', ?_, fun j v hj => ?_⟩
      · simpa [hi] using h1
      · have := h3 j v hj
        rw [add_plain, add_plain] at this
        exact this
section
variable {H : Type} {enc : TypeId × Value → H} {W : World} {base : Nat} {spare : Nat → Bool} {held : Bool}
set_option maxRecDepth 100000 in
theorem glide_in {fuel : Nat} {cs : List Value} {x : DataW H × List MemPlace} (h : DataW.trod enc Tryz.prog W base spare held fuel 24 cs = some x) :
    ∃ (fr : Txt) (tz st ti : Int), cs = [.string ⟨fr.toArray⟩, .int .i64 tz, .int .i64 st, .int .i64 ti] ∧ fr.length ≤ 9223372036854775807 ∧ (-9223372036854775808 ≤ tz ∧ tz ≤ 9223372036854775807) ∧ (-9223372036854775808 ≤ st ∧ st ≤ 9223372036854775807) ∧ (-9223372036854775808 ≤ ti ∧ ti ≤ 9223372036854775807) := by
  obtain ⟨xs, n, -, -, hl, hxl, hf⟩ := DataW.trod_struct Tryz.underlying24 h
  have kc : cs.length = 4 := hl.trans (by kernel_rfl)
  match cs, kc with
  | [c0, c1, c2, c3], _ =>
    match xs, hxl with
    | [y0, y1, y2, y3], _ =>
      have k0 : Tryz.prog.cellsOf 22 = 1 := by kernel_rfl
      have h0 : DataW.trod enc Tryz.prog W base spare held n 22 [c0] = some y0 := by
        have h : DataW.trod enc Tryz.prog W base spare held n 22 (List.take (Tryz.prog.cellsOf 22) (List.drop 0 [c0, c1, c2, c3])) = [y0, y1, y2, y3][0]? := hf 0 _ rfl
        rw [k0] at h
        exact h
      have k1 : Tryz.prog.cellsOf 3 = 1 := by kernel_rfl
      have h1 : DataW.trod enc Tryz.prog W base spare held n 3 [c1] = some y1 := by
        have h : DataW.trod enc Tryz.prog W base spare held n 3 (List.take (Tryz.prog.cellsOf 3) (List.drop 1 [c0, c1, c2, c3])) = [y0, y1, y2, y3][1]? := hf 1 _ rfl
        rw [k1] at h
        exact h
      have k2 : Tryz.prog.cellsOf 3 = 1 := by kernel_rfl
      have h2 : DataW.trod enc Tryz.prog W base spare held n 3 [c2] = some y2 := by
        have h : DataW.trod enc Tryz.prog W base spare held n 3 (List.take (Tryz.prog.cellsOf 3) (List.drop 2 [c0, c1, c2, c3])) = [y0, y1, y2, y3][2]? := hf 2 _ rfl
        rw [k2] at h
        exact h
      have k3 : Tryz.prog.cellsOf 3 = 1 := by kernel_rfl
      have h3 : DataW.trod enc Tryz.prog W base spare held n 3 [c3] = some y3 := by
        have h : DataW.trod enc Tryz.prog W base spare held n 3 (List.take (Tryz.prog.cellsOf 3) (List.drop 3 [c0, c1, c2, c3])) = [y0, y1, y2, y3][3]? := hf 3 _ rfl
        rw [k3] at h
        exact h
      obtain ⟨s, e0, -, w0⟩ := DataW.trod_string Tryz.underlying22 h0
      obtain rfl := (List.cons.inj e0).1
      obtain ⟨fr, es⟩ := str_of s
      have hs := len_of_str es w0
      subst es
      obtain ⟨a, e1, -, w1⟩ := DataW.trod_int Tryz.underlying3 h1
      obtain rfl := (List.cons.inj e1).1
      obtain ⟨b, e2, -, w2⟩ := DataW.trod_int Tryz.underlying3 h2
      obtain rfl := (List.cons.inj e2).1
      obtain ⟨c, e3, -, w3⟩ := DataW.trod_int Tryz.underlying3 h3
      obtain rfl := (List.cons.inj e3).1
      exact ⟨fr, a, b, c, rfl, hs, wf_i64 w1, wf_i64 w2, wf_i64 w3⟩

set_option maxRecDepth 100000 in
theorem param_in {fuel : Nat} {cs : List Value} {x : DataW H × List MemPlace} (h : DataW.trod enc Tryz.prog W base spare held fuel 72 cs = some x) :
    ∃ (ch at_ : Int), cs = [.int .i64 ch, .int .i64 at_] ∧ (-9223372036854775808 ≤ ch ∧ ch ≤ 9223372036854775807) ∧ (-9223372036854775808 ≤ at_ ∧ at_ ≤ 9223372036854775807) := by
  obtain ⟨xs, n, -, -, hl, hxl, hf⟩ := DataW.trod_struct Tryz.underlying72 h
  have kc : cs.length = 2 := hl.trans (by kernel_rfl)
  match cs, kc with
  | [c0, c1], _ =>
    match xs, hxl with
    | [y0, y1], _ =>
      have k0 : Tryz.prog.cellsOf 3 = 1 := by kernel_rfl
      have h0 : DataW.trod enc Tryz.prog W base spare held n 3 [c0] = some y0 := by
        have h : DataW.trod enc Tryz.prog W base spare held n 3 (List.take (Tryz.prog.cellsOf 3) (List.drop 0 [c0, c1])) = [y0, y1][0]? := hf 0 _ rfl
        rw [k0] at h
        exact h
      have k1 : Tryz.prog.cellsOf 3 = 1 := by kernel_rfl
      have h1 : DataW.trod enc Tryz.prog W base spare held n 3 [c1] = some y1 := by
        have h : DataW.trod enc Tryz.prog W base spare held n 3 (List.take (Tryz.prog.cellsOf 3) (List.drop 1 [c0, c1])) = [y0, y1][1]? := hf 1 _ rfl
        rw [k1] at h
        exact h
      obtain ⟨a, e0, -, w0⟩ := DataW.trod_int Tryz.underlying3 h0
      obtain rfl := (List.cons.inj e0).1
      obtain ⟨b, e1, -, w1⟩ := DataW.trod_int Tryz.underlying3 h1
      obtain rfl := (List.cons.inj e1).1
      exact ⟨a, b, rfl, wf_i64 w0, wf_i64 w1⟩

set_option maxRecDepth 100000 in
theorem gain_in {fuel : Nat} {cs : List Value} {x : DataW H × List MemPlace} (h : DataW.trod enc Tryz.prog W base spare held fuel 85 cs = some x) :
    ∃ g : Gn, cs = [.int .i64 g.ch, .int .i64 g.at_, .int .i64 g.lev] := by
  obtain ⟨xs, n, -, -, hl, hxl, hf⟩ := DataW.trod_struct Tryz.underlying85 h
  have kc : cs.length = 3 := hl.trans (by kernel_rfl)
  match cs, kc with
  | [c0, c1, c2], _ =>
    match xs, hxl with
    | [y0, y1], _ =>
      have k0 : Tryz.prog.cellsOf 72 = 2 := by kernel_rfl
      have h0 : DataW.trod enc Tryz.prog W base spare held n 72 [c0, c1] = some y0 := by
        have h : DataW.trod enc Tryz.prog W base spare held n 72 (List.take (Tryz.prog.cellsOf 72) (List.drop 0 [c0, c1, c2])) = [y0, y1][0]? := hf 0 _ rfl
        rw [k0] at h
        exact h
      have k1 : Tryz.prog.cellsOf 3 = 1 := by kernel_rfl
      have h1 : DataW.trod enc Tryz.prog W base spare held n 3 [c2] = some y1 := by
        have h : DataW.trod enc Tryz.prog W base spare held n 3 (List.take (Tryz.prog.cellsOf 3) (List.drop 2 [c0, c1, c2])) = [y0, y1][1]? := hf 1 _ rfl
        rw [k1] at h
        exact h
      obtain ⟨a, b, e0, -, -⟩ := param_in h0
      simp only [List.cons.injEq, and_true] at e0
      obtain ⟨rfl, rfl⟩ := e0
      obtain ⟨c, e2, -, w2⟩ := DataW.trod_int Tryz.underlying3 h1
      obtain rfl := (List.cons.inj e2).1
      exact ⟨⟨a, b, c⟩, rfl⟩

theorem gains_in {fuel : Nat} {cs : List Value} {x : DataW H × List MemPlace} (h : DataW.trod enc Tryz.prog W base spare held fuel 56 cs = some x) : ∃ (gv : Value) (gs : List Gn), cs = [gv] ∧ GnsAt W gv gs := by
  obtain ⟨l, p, c, rfl, hl, -, hc⟩ := open_els Tryz.underlying56 3 (by kernel_rfl) (by omega) (⟨0, 0, 0⟩ : Gn) (fun cs g => cs = [.int .i64 g.ch, .int .i64 g.at_, .int .i64 g.lev]) (fun _ _ _ h => gain_in h) h
  refine ⟨_, l, rfl, p, c, rfl, hl, fun hn => ?_⟩
  obtain ⟨b, o, hp, hb, hc⟩ := hc hn
  refine ⟨b, o, hp, hb, fun i hi => ?_⟩
  obtain ⟨cs', rfl, h1⟩ := hc i hi
  exact ⟨h1 0 _ rfl, h1 1 _ rfl, h1 2 _ rfl⟩

set_option maxRecDepth 100000 in
theorem sub_in {fuel : Nat} {cs : List Value} {x : DataW H × List MemPlace} (h : DataW.trod enc Tryz.prog W base spare held fuel 58 cs = some x) :
    ∃ (s : Sb) (gv : Value), cs = [.int .i64 s.nu, .int .i64 s.pr, .bool s.inh, gv] ∧ GnsAt W gv s.gs ∧ (-9223372036854775808 ≤ s.nu ∧ s.nu ≤ 9223372036854775807) ∧ (-9223372036854775808 ≤ s.pr ∧ s.pr ≤ 9223372036854775807) := by
  obtain ⟨xs, n, -, -, hl, hxl, hf⟩ := DataW.trod_struct Tryz.underlying58 h
  have kc : cs.length = 4 := hl.trans (by kernel_rfl)
  match cs, kc with
  | [c0, c1, c2, c3], _ =>
    match xs, hxl with
    | [y0, y1, y2, y3], _ =>
      have k0 : Tryz.prog.cellsOf 3 = 1 := by kernel_rfl
      have h0 : DataW.trod enc Tryz.prog W base spare held n 3 [c0] = some y0 := by
        have h : DataW.trod enc Tryz.prog W base spare held n 3 (List.take (Tryz.prog.cellsOf 3) (List.drop 0 [c0, c1, c2, c3])) = [y0, y1, y2, y3][0]? := hf 0 _ rfl
        rw [k0] at h
        exact h
      have k1 : Tryz.prog.cellsOf 3 = 1 := by kernel_rfl
      have h1 : DataW.trod enc Tryz.prog W base spare held n 3 [c1] = some y1 := by
        have h : DataW.trod enc Tryz.prog W base spare held n 3 (List.take (Tryz.prog.cellsOf 3) (List.drop 1 [c0, c1, c2, c3])) = [y0, y1, y2, y3][1]? := hf 1 _ rfl
        rw [k1] at h
        exact h
      have k2 : Tryz.prog.cellsOf 4 = 1 := by kernel_rfl
      have h2 : DataW.trod enc Tryz.prog W base spare held n 4 [c2] = some y2 := by
        have h : DataW.trod enc Tryz.prog W base spare held n 4 (List.take (Tryz.prog.cellsOf 4) (List.drop 2 [c0, c1, c2, c3])) = [y0, y1, y2, y3][2]? := hf 2 _ rfl
        rw [k2] at h
        exact h
      have k3 : Tryz.prog.cellsOf 56 = 1 := by kernel_rfl
      have h3 : DataW.trod enc Tryz.prog W base spare held n 56 [c3] = some y3 := by
        have h : DataW.trod enc Tryz.prog W base spare held n 56 (List.take (Tryz.prog.cellsOf 56) (List.drop 3 [c0, c1, c2, c3])) = [y0, y1, y2, y3][3]? := hf 3 _ rfl
        rw [k3] at h
        exact h
      obtain ⟨a, e0, -, w0⟩ := DataW.trod_int Tryz.underlying3 h0
      obtain rfl := (List.cons.inj e0).1
      obtain ⟨b, e1, -, w1⟩ := DataW.trod_int Tryz.underlying3 h1
      obtain rfl := (List.cons.inj e1).1
      obtain ⟨c, e2, -⟩ := DataW.trod_bool Tryz.underlying4 h2
      obtain rfl := (List.cons.inj e2).1
      obtain ⟨gv, gs, e3, hg⟩ := gains_in h3
      obtain rfl := (List.cons.inj e3).1
      exact ⟨⟨a, b, c, gs⟩, _, rfl, hg, wf_i64 w0, wf_i64 w1⟩

set_option maxRecDepth 100000 in
theorem fader_in {fuel : Nat} {cs : List Value} {x : DataW H × List MemPlace} (h : DataW.trod enc Tryz.prog W base spare held fuel 108 cs = some x) :
    ∃ f : Fdr, cs = [.int .i64 f.su, .string ⟨f.fr.toArray⟩, .int .i64 f.tz, .int .i64 f.st, .int .i64 f.ti, .int .i64 f.stp] ∧ f.fr.length ≤ 9223372036854775807 := by
  obtain ⟨xs, n, -, -, hl, hxl, hf⟩ := DataW.trod_struct Tryz.underlying108 h
  have kc : cs.length = 6 := hl.trans (by kernel_rfl)
  match cs, kc with
  | [c0, c1, c2, c3, c4, c5], _ =>
    match xs, hxl with
    | [y0, y1, y2], _ =>
      have k0 : Tryz.prog.cellsOf 3 = 1 := by kernel_rfl
      have h0 : DataW.trod enc Tryz.prog W base spare held n 3 [c0] = some y0 := by
        have h : DataW.trod enc Tryz.prog W base spare held n 3 (List.take (Tryz.prog.cellsOf 3) (List.drop 0 [c0, c1, c2, c3, c4, c5])) = [y0, y1, y2][0]? := hf 0 _ rfl
        rw [k0] at h
        exact h
      have k1 : Tryz.prog.cellsOf 24 = 4 := by kernel_rfl
      have h1 : DataW.trod enc Tryz.prog W base spare held n 24 [c1, c2, c3, c4] = some y1 := by
        have h : DataW.trod enc Tryz.prog W base spare held n 24 (List.take (Tryz.prog.cellsOf 24) (List.drop 1 [c0, c1, c2, c3, c4, c5])) = [y0, y1, y2][1]? := hf 1 _ rfl
        rw [k1] at h
        exact h
      have k2 : Tryz.prog.cellsOf 3 = 1 := by kernel_rfl
      have h2 : DataW.trod enc Tryz.prog W base spare held n 3 [c5] = some y2 := by
        have h : DataW.trod enc Tryz.prog W base spare held n 3 (List.take (Tryz.prog.cellsOf 3) (List.drop 5 [c0, c1, c2, c3, c4, c5])) = [y0, y1, y2][2]? := hf 2 _ rfl
        rw [k2] at h
        exact h
      obtain ⟨a, e0, -, w0⟩ := DataW.trod_int Tryz.underlying3 h0
      obtain rfl := (List.cons.inj e0).1
      obtain ⟨fr, tz, st, ti, e1, hfl, -, -, -⟩ := glide_in h1
      simp only [List.cons.injEq, and_true] at e1
      obtain ⟨rfl, rfl, rfl, rfl⟩ := e1
      obtain ⟨z, e2, -, w2⟩ := DataW.trod_int Tryz.underlying3 h2
      obtain rfl := (List.cons.inj e2).1
      exact ⟨⟨a, fr, tz, st, ti, z⟩, rfl, hfl⟩

theorem subs_in {fuel : Nat} {cs : List Value} {x : DataW H × List MemPlace} (h : DataW.trod enc Tryz.prog W base spare held fuel 25 cs = some x) : ∃ (v : Value) (l : List Sb), cs = [v] ∧ SbsAt W v l ∧ l.length ≤ maxLen := by
  obtain ⟨l, p, c, rfl, hl, hm, hc⟩ := open_els Tryz.underlying25 4 (by kernel_rfl) (by omega) (⟨0, 0, false, []⟩ : Sb) (fun cs s => ∃ gv, cs = [.int .i64 s.nu, .int .i64 s.pr, .bool s.inh, gv] ∧ GnsAt W gv s.gs) (fun _ _ _ h => by obtain ⟨s, gv, h1, h2, -, -⟩ := sub_in h; exact ⟨s, gv, h1, h2⟩) h
  refine ⟨_, l, rfl, ⟨p, c, rfl, hl, fun hn => ?_⟩, by omega⟩
  obtain ⟨b, o, hp, hb, hc⟩ := hc hn
  refine ⟨b, o, hp, hb, fun i hi => ?_⟩
  obtain ⟨cs', ⟨gv, rfl, hg⟩, h1⟩ := hc i hi
  exact ⟨h1 0 _ rfl, h1 1 _ rfl, h1 2 _ rfl, gv, h1 3 _ rfl, hg⟩

theorem faders_in {fuel : Nat} {cs : List Value} {x : DataW H × List MemPlace} (h : DataW.trod enc Tryz.prog W base spare held fuel 26 cs = some x) : ∃ (v : Value) (l : List Fdr), cs = [v] ∧ FdsAt W v l ∧ l.length ≤ maxLen := by
  obtain ⟨l, p, c, rfl, hl, hm, hc⟩ := open_els Tryz.underlying26 6 (by kernel_rfl) (by omega) (⟨0, [], 0, 0, 0, 0⟩ : Fdr) (fun cs f => cs = [.int .i64 f.su, .string ⟨f.fr.toArray⟩, .int .i64 f.tz, .int .i64 f.st, .int .i64 f.ti, .int .i64 f.stp]) (fun _ _ _ h => by obtain ⟨s, h1, -⟩ := fader_in h; exact ⟨s, h1⟩) h
  refine ⟨_, l, rfl, ⟨p, c, rfl, hl, fun hn => ?_⟩, by omega⟩
  obtain ⟨b, o, hp, hb, hc⟩ := hc hn
  refine ⟨b, o, hp, hb, fun i hi => ?_⟩
  obtain ⟨cs', rfl, h1⟩ := hc i hi
  exact ⟨h1 0 _ rfl, h1 1 _ rfl, h1 2 _ rfl, h1 3 _ rfl, h1 4 _ rfl, h1 5 _ rfl⟩

variable {r : Reach} {b0 : Nat} {v : Value} {d : DataW H} {p : List MemPlace}
set_option maxRecDepth 100000 in
theorem open_subs (hv : Value.okWide Tryz.prog W r b0 25 v) (h : DataW.Trod enc Tryz.prog W base spare held 25 v d p) : ∃ l : List Sb, SbsAt W v l ∧ l.length ≤ maxLen := by
  obtain ⟨a0, len, cap, rfl⟩ := okWide_slice Tryz.underlying25 hv
  obtain ⟨fuel, hf⟩ := h
  obtain ⟨v, l, h1, h2, h3⟩ := subs_in hf
  obtain rfl := (List.cons.inj h1).1
  exact ⟨l, h2, h3⟩
set_option maxRecDepth 100000 in
theorem open_faders (hv : Value.okWide Tryz.prog W r b0 26 v) (h : DataW.Trod enc Tryz.prog W base spare held 26 v d p) : ∃ l : List Fdr, FdsAt W v l ∧ l.length ≤ maxLen := by
  obtain ⟨a0, len, cap, rfl⟩ := okWide_slice Tryz.underlying26 hv
  obtain ⟨fuel, hf⟩ := h
  obtain ⟨v, l, h1, h2, h3⟩ := faders_in hf
  obtain rfl := (List.cons.inj h1).1
  exact ⟨l, h2, h3⟩
set_option maxRecDepth 100000 in
theorem open_sub (hv : Value.okWide Tryz.prog W r b0 58 v) (h : DataW.Trod enc Tryz.prog W base spare held 58 v d p) : ∃ (s : Sb) (gv : Value), v = .agg #[.int .i64 s.nu, .int .i64 s.pr, .bool s.inh, gv] ∧ GnsAt W gv s.gs := by
  obtain ⟨cs, rfl, hsz⟩ := okWide_struct Tryz.underlying58 hv
  obtain ⟨l⟩ := cs
  obtain ⟨fuel, hf⟩ := h
  obtain ⟨s, gv, h1, h2, -, -⟩ := sub_in hf
  exact ⟨s, gv, by simpa [Value.cells] using h1, h2⟩
set_option maxRecDepth 100000 in
theorem masters_in {fuel : Nat} {cs : List Value} {x : DataW H × List MemPlace} (h : DataW.trod enc Tryz.prog W base spare held fuel 28 cs = some x) :
    ∃ (fr : Txt) (tz st ti : Int) (bl : Bool) (sv fv : Value) (su : List Sb) (fd : List Fdr), cs = [.string ⟨fr.toArray⟩, .int .i64 tz, .int .i64 st, .int .i64 ti, .bool bl, sv, fv] ∧ fr.length ≤ 9223372036854775807 ∧ SbsAt W sv su ∧ FdsAt W fv fd := by
  obtain ⟨xs, n, -, -, hl, hxl, hf⟩ := DataW.trod_struct Tryz.underlying28 h
  have kc : cs.length = 7 := hl.trans (by kernel_rfl)
  match cs, kc with
  | [c0, c1, c2, c3, c4, c5, c6], _ =>
    match xs, hxl with
    | [y0, y1, y2, y3], _ =>
      have k0 : Tryz.prog.cellsOf 24 = 4 := by kernel_rfl
      have h0 : DataW.trod enc Tryz.prog W base spare held n 24 [c0, c1, c2, c3] = some y0 := by
        have h : DataW.trod enc Tryz.prog W base spare held n 24 (List.take (Tryz.prog.cellsOf 24) (List.drop 0 [c0, c1, c2, c3, c4, c5, c6])) = [y0, y1, y2, y3][0]? := hf 0 _ rfl
        rw [k0] at h
        exact h
      have k1 : Tryz.prog.cellsOf 4 = 1 := by kernel_rfl
      have h1 : DataW.trod enc Tryz.prog W base spare held n 4 [c4] = some y1 := by
        have h : DataW.trod enc Tryz.prog W base spare held n 4 (List.take (Tryz.prog.cellsOf 4) (List.drop 4 [c0, c1, c2, c3, c4, c5, c6])) = [y0, y1, y2, y3][1]? := hf 1 _ rfl
        rw [k1] at h
        exact h
      have k2 : Tryz.prog.cellsOf 25 = 1 := by kernel_rfl
      have h2 : DataW.trod enc Tryz.prog W base spare held n 25 [c5] = some y2 := by
        have h : DataW.trod enc Tryz.prog W base spare held n 25 (List.take (Tryz.prog.cellsOf 25) (List.drop 5 [c0, c1, c2, c3, c4, c5, c6])) = [y0, y1, y2, y3][2]? := hf 2 _ rfl
        rw [k2] at h
        exact h
      have k3 : Tryz.prog.cellsOf 26 = 1 := by kernel_rfl
      have h3 : DataW.trod enc Tryz.prog W base spare held n 26 [c6] = some y3 := by
        have h : DataW.trod enc Tryz.prog W base spare held n 26 (List.take (Tryz.prog.cellsOf 26) (List.drop 6 [c0, c1, c2, c3, c4, c5, c6])) = [y0, y1, y2, y3][3]? := hf 3 _ rfl
        rw [k3] at h
        exact h
      obtain ⟨fr, tz, st, ti, e1, hfl, -, -, -⟩ := glide_in h0
      simp only [List.cons.injEq, and_true] at e1
      obtain ⟨rfl, rfl, rfl, rfl⟩ := e1
      obtain ⟨bl, e2, -⟩ := DataW.trod_bool Tryz.underlying4 h1
      obtain rfl := (List.cons.inj e2).1
      obtain ⟨sv, su, e3, hs, -⟩ := subs_in h2
      obtain rfl := (List.cons.inj e3).1
      obtain ⟨fv, fd, e4, hd, -⟩ := faders_in h3
      obtain rfl := (List.cons.inj e4).1
      exact ⟨fr, tz, st, ti, bl, _, _, su, fd, rfl, hfl, hs, hd⟩

set_option maxRecDepth 100000 in
theorem open_masters (hv : Value.okWide Tryz.prog W r b0 28 v) (h : DataW.Trod enc Tryz.prog W base spare held 28 v d p) : ∃ (fr : Txt) (tz st ti : Int) (bl : Bool) (sv fv : Value) (su : List Sb) (fd : List Fdr), v = .agg #[.string ⟨fr.toArray⟩, .int .i64 tz, .int .i64 st, .int .i64 ti, .bool bl, sv, fv] ∧ fr.length ≤ 9223372036854775807 ∧ SbsAt W sv su ∧ FdsAt W fv fd := by
  obtain ⟨cs, rfl, hsz⟩ := okWide_struct Tryz.underlying28 hv
  obtain ⟨l⟩ := cs
  obtain ⟨fuel, hf⟩ := h
  obtain ⟨fr, tz, st, ti, bl, sv, fv, su, fd, h1, h2⟩ := masters_in hf
  exact ⟨fr, tz, st, ti, bl, sv, fv, su, fd, by simpa [Value.cells] using h1, h2⟩
end
end Go.Proofs.YtkjelfmgnkkijaaGreatDoor
namespace Go.Proofs.YtkjelfmgnkkijaaGreatDoor


open Go.RowKit Go.Shelf Lum Go.ChangeShapes Go.WideShapes Go.ChangeAt Go.Joins
section
variable {H : Type} {enc : TypeId × Value → H} {W : World} {base : Nat} {spare : Nat → Bool} {held : Bool}
set_option maxRecDepth 100000 in
theorem push_in {fuel : Nat} {cs : List Value} {x : DataW H × List MemPlace} (h : DataW.trod enc Tryz.prog W base spare held fuel 30 cs = some x) :
    ∃ (a b c : Int), cs = [.int .i64 a, .int .i64 b, .int .i64 c] ∧ (-9223372036854775808 ≤ a ∧ a ≤ 9223372036854775807) ∧ (-9223372036854775808 ≤ b ∧ b ≤ 9223372036854775807) ∧ (-9223372036854775808 ≤ c ∧ c ≤ 9223372036854775807) := by
  obtain ⟨xs, n, -, -, hl, hxl, hf⟩ := DataW.trod_struct Tryz.underlying30 h
  have kc : cs.length = 3 := hl.trans (by kernel_rfl)
  match cs, kc with
  | [c0, c1, c2], _ =>
    match xs, hxl with
    | [y0, y1, y2], _ =>
      have k0 : Tryz.prog.cellsOf 3 = 1 := by kernel_rfl
      have h0 : DataW.trod enc Tryz.prog W base spare held n 3 [c0] = some y0 := by
        have h : DataW.trod enc Tryz.prog W base spare held n 3 (List.take (Tryz.prog.cellsOf 3) (List.drop 0 [c0, c1, c2])) = [y0, y1, y2][0]? := hf 0 _ rfl
        rw [k0] at h
        exact h
      have k1 : Tryz.prog.cellsOf 3 = 1 := by kernel_rfl
      have h1 : DataW.trod enc Tryz.prog W base spare held n 3 [c1] = some y1 := by
        have h : DataW.trod enc Tryz.prog W base spare held n 3 (List.take (Tryz.prog.cellsOf 3) (List.drop 1 [c0, c1, c2])) = [y0, y1, y2][1]? := hf 1 _ rfl
        rw [k1] at h
        exact h
      have k2 : Tryz.prog.cellsOf 3 = 1 := by kernel_rfl
      have h2 : DataW.trod enc Tryz.prog W base spare held n 3 [c2] = some y2 := by
        have h : DataW.trod enc Tryz.prog W base spare held n 3 (List.take (Tryz.prog.cellsOf 3) (List.drop 2 [c0, c1, c2])) = [y0, y1, y2][2]? := hf 2 _ rfl
        rw [k2] at h
        exact h
      obtain ⟨a, e0, -, w0⟩ := DataW.trod_int Tryz.underlying3 h0
      obtain rfl := (List.cons.inj e0).1
      obtain ⟨b, e1, -, w1⟩ := DataW.trod_int Tryz.underlying3 h1
      obtain rfl := (List.cons.inj e1).1
      obtain ⟨c, e2, -, w2⟩ := DataW.trod_int Tryz.underlying3 h2
      obtain rfl := (List.cons.inj e2).1
      exact ⟨a, b, c, rfl, wf_i64 w0, wf_i64 w1, wf_i64 w2⟩

set_option maxRecDepth 100000 in
theorem source_in {fuel : Nat} {cs : List Value} {x : DataW H × List MemPlace} (h : DataW.trod enc Tryz.prog W base spare held fuel 43 cs = some x) :
    ∃ (a b : Int), cs = [.int .i64 a, .int .i64 b] ∧ (-9223372036854775808 ≤ a ∧ a ≤ 9223372036854775807) ∧ (-9223372036854775808 ≤ b ∧ b ≤ 9223372036854775807) := by
  obtain ⟨xs, n, -, -, hl, hxl, hf⟩ := DataW.trod_struct Tryz.underlying43 h
  have kc : cs.length = 2 := hl.trans (by kernel_rfl)
  match cs, kc with
  | [c0, c1], _ =>
    match xs, hxl with
    | [y0, y1], _ =>
      have k0 : Tryz.prog.cellsOf 3 = 1 := by kernel_rfl
      have h0 : DataW.trod enc Tryz.prog W base spare held n 3 [c0] = some y0 := by
        have h : DataW.trod enc Tryz.prog W base spare held n 3 (List.take (Tryz.prog.cellsOf 3) (List.drop 0 [c0, c1])) = [y0, y1][0]? := hf 0 _ rfl
        rw [k0] at h
        exact h
      have k1 : Tryz.prog.cellsOf 3 = 1 := by kernel_rfl
      have h1 : DataW.trod enc Tryz.prog W base spare held n 3 [c1] = some y1 := by
        have h : DataW.trod enc Tryz.prog W base spare held n 3 (List.take (Tryz.prog.cellsOf 3) (List.drop 1 [c0, c1])) = [y0, y1][1]? := hf 1 _ rfl
        rw [k1] at h
        exact h
      obtain ⟨a, e0, -, w0⟩ := DataW.trod_int Tryz.underlying3 h0
      obtain rfl := (List.cons.inj e0).1
      obtain ⟨b, e1, -, w1⟩ := DataW.trod_int Tryz.underlying3 h1
      obtain rfl := (List.cons.inj e1).1
      exact ⟨a, b, rfl, wf_i64 w0, wf_i64 w1⟩

variable {r : Reach} {b0 : Nat} {v : Value} {d : DataW H} {p : List MemPlace}
set_option maxRecDepth 100000 in
theorem open_push (hv : Value.okWide Tryz.prog W r b0 30 v) (h : DataW.Trod enc Tryz.prog W base spare held 30 v d p) : ∃ (a b c : Int), v = .agg #[.int .i64 a, .int .i64 b, .int .i64 c] ∧ (-9223372036854775808 ≤ a ∧ a ≤ 9223372036854775807) ∧ (-9223372036854775808 ≤ b ∧ b ≤ 9223372036854775807) ∧ (-9223372036854775808 ≤ c ∧ c ≤ 9223372036854775807) := by
  obtain ⟨cs, rfl, hsz⟩ := okWide_struct Tryz.underlying30 hv
  obtain ⟨l⟩ := cs
  obtain ⟨fuel, hf⟩ := h
  obtain ⟨a, b, c, h1, h2⟩ := push_in hf
  exact ⟨a, b, c, by simpa [Value.cells] using h1, h2⟩
set_option maxRecDepth 100000 in
theorem open_source (hv : Value.okWide Tryz.prog W r b0 43 v) (h : DataW.Trod enc Tryz.prog W base spare held 43 v d p) : ∃ (a b : Int), v = .agg #[.int .i64 a, .int .i64 b] ∧ (-9223372036854775808 ≤ a ∧ a ≤ 9223372036854775807) ∧ (-9223372036854775808 ≤ b ∧ b ≤ 9223372036854775807) := by
  obtain ⟨cs, rfl, hsz⟩ := okWide_struct Tryz.underlying43 hv
  obtain ⟨l⟩ := cs
  obtain ⟨fuel, hf⟩ := h
  obtain ⟨a, b, h1, h2⟩ := source_in hf
  exact ⟨a, b, by simpa [Value.cells] using h1, h2⟩
end
end Go.Proofs.YtkjelfmgnkkijaaGreatDoor
namespace Go.Proofs.YtkjelfmgnkkijaaGreatDoor


open Go.RowKit Go.Shelf Lum Go.ChangeShapes Go.WideShapes Go.ChangeAt Go.Joins
section
variable {H : Type} {enc : TypeId × Value → H} {W : World} {base : Nat} {spare : Nat → Bool} {held : Bool}
set_option maxRecDepth 100000 in
theorem push26_in {fuel : Nat} {cs : List Value} {x : DataW H × List MemPlace} (h : DataW.trod enc Tryz.prog W base spare held fuel 59 cs = some x) :
    ∃ (a b c : Int), cs = [.int .i64 a, .int .i64 b, .int .i64 c] ∧ (-9223372036854775808 ≤ a ∧ a ≤ 9223372036854775807) ∧ (-9223372036854775808 ≤ b ∧ b ≤ 9223372036854775807) ∧ (-9223372036854775808 ≤ c ∧ c ≤ 9223372036854775807) := by
  obtain ⟨xs, n, -, -, hl, hxl, hf⟩ := DataW.trod_struct Tryz.underlying59 h
  have kc : cs.length = 3 := hl.trans (by kernel_rfl)
  match cs, kc with
  | [c0, c1, c2], _ =>
    match xs, hxl with
    | [y0, y1, y2], _ =>
      have k0 : Tryz.prog.cellsOf 3 = 1 := by kernel_rfl
      have h0 : DataW.trod enc Tryz.prog W base spare held n 3 [c0] = some y0 := by
        have h : DataW.trod enc Tryz.prog W base spare held n 3 (List.take (Tryz.prog.cellsOf 3) (List.drop 0 [c0, c1, c2])) = [y0, y1, y2][0]? := hf 0 _ rfl
        rw [k0] at h
        exact h
      have k1 : Tryz.prog.cellsOf 3 = 1 := by kernel_rfl
      have h1 : DataW.trod enc Tryz.prog W base spare held n 3 [c1] = some y1 := by
        have h : DataW.trod enc Tryz.prog W base spare held n 3 (List.take (Tryz.prog.cellsOf 3) (List.drop 1 [c0, c1, c2])) = [y0, y1, y2][1]? := hf 1 _ rfl
        rw [k1] at h
        exact h
      have k2 : Tryz.prog.cellsOf 3 = 1 := by kernel_rfl
      have h2 : DataW.trod enc Tryz.prog W base spare held n 3 [c2] = some y2 := by
        have h : DataW.trod enc Tryz.prog W base spare held n 3 (List.take (Tryz.prog.cellsOf 3) (List.drop 2 [c0, c1, c2])) = [y0, y1, y2][2]? := hf 2 _ rfl
        rw [k2] at h
        exact h
      obtain ⟨a, e0, -, w0⟩ := DataW.trod_int Tryz.underlying3 h0
      obtain rfl := (List.cons.inj e0).1
      obtain ⟨b, e1, -, w1⟩ := DataW.trod_int Tryz.underlying3 h1
      obtain rfl := (List.cons.inj e1).1
      obtain ⟨c, e2, -, w2⟩ := DataW.trod_int Tryz.underlying3 h2
      obtain rfl := (List.cons.inj e2).1
      exact ⟨a, b, c, rfl, wf_i64 w0, wf_i64 w1, wf_i64 w2⟩

set_option maxRecDepth 100000 in
theorem place_in {fuel : Nat} {cs : List Value} {x : DataW H × List MemPlace} (h : DataW.trod enc Tryz.prog W base spare held fuel 74 cs = some x) :
    ∃ (a b c : Int), cs = [.int .i64 a, .int .i64 b, .int .i64 c] ∧ (-9223372036854775808 ≤ a ∧ a ≤ 9223372036854775807) ∧ (-9223372036854775808 ≤ b ∧ b ≤ 9223372036854775807) ∧ (-9223372036854775808 ≤ c ∧ c ≤ 9223372036854775807) := by
  obtain ⟨xs, n, -, -, hl, hxl, hf⟩ := DataW.trod_struct Tryz.underlying74 h
  have kc : cs.length = 3 := hl.trans (by kernel_rfl)
  match cs, kc with
  | [c0, c1, c2], _ =>
    match xs, hxl with
    | [y0, y1], _ =>
      have k0 : Tryz.prog.cellsOf 72 = 2 := by kernel_rfl
      have h0 : DataW.trod enc Tryz.prog W base spare held n 72 [c0, c1] = some y0 := by
        have h : DataW.trod enc Tryz.prog W base spare held n 72 (List.take (Tryz.prog.cellsOf 72) (List.drop 0 [c0, c1, c2])) = [y0, y1][0]? := hf 0 _ rfl
        rw [k0] at h
        exact h
      have k1 : Tryz.prog.cellsOf 3 = 1 := by kernel_rfl
      have h1 : DataW.trod enc Tryz.prog W base spare held n 3 [c2] = some y1 := by
        have h : DataW.trod enc Tryz.prog W base spare held n 3 (List.take (Tryz.prog.cellsOf 3) (List.drop 2 [c0, c1, c2])) = [y0, y1][1]? := hf 1 _ rfl
        rw [k1] at h
        exact h
      obtain ⟨a, b, e0, wa, wb⟩ := param_in h0
      simp only [List.cons.injEq, and_true] at e0
      obtain ⟨rfl, rfl⟩ := e0
      obtain ⟨c, e1, -, w1⟩ := DataW.trod_int Tryz.underlying3 h1
      obtain rfl := (List.cons.inj e1).1
      exact ⟨a, b, c, rfl, wa, wb, wf_i64 w1⟩

variable {r : Reach} {b0 : Nat} {v : Value} {d : DataW H} {p : List MemPlace}
set_option maxRecDepth 100000 in
theorem open_push26 (hv : Value.okWide Tryz.prog W r b0 59 v) (h : DataW.Trod enc Tryz.prog W base spare held 59 v d p) : ∃ (a b c : Int), v = .agg #[.int .i64 a, .int .i64 b, .int .i64 c] ∧ (-9223372036854775808 ≤ a ∧ a ≤ 9223372036854775807) ∧ (-9223372036854775808 ≤ b ∧ b ≤ 9223372036854775807) ∧ (-9223372036854775808 ≤ c ∧ c ≤ 9223372036854775807) := by
  obtain ⟨cs, rfl, hsz⟩ := okWide_struct Tryz.underlying59 hv
  obtain ⟨l⟩ := cs
  obtain ⟨fuel, hf⟩ := h
  obtain ⟨a, b, c, h1, h2⟩ := push26_in hf
  exact ⟨a, b, c, by simpa [Value.cells] using h1, h2⟩
set_option maxRecDepth 100000 in
theorem open_place (hv : Value.okWide Tryz.prog W r b0 74 v) (h : DataW.Trod enc Tryz.prog W base spare held 74 v d p) : ∃ (a b c : Int), v = .agg #[.int .i64 a, .int .i64 b, .int .i64 c] ∧ (-9223372036854775808 ≤ a ∧ a ≤ 9223372036854775807) ∧ (-9223372036854775808 ≤ b ∧ b ≤ 9223372036854775807) ∧ (-9223372036854775808 ≤ c ∧ c ≤ 9223372036854775807) := by
  obtain ⟨cs, rfl, hsz⟩ := okWide_struct Tryz.underlying74 hv
  obtain ⟨l⟩ := cs
  obtain ⟨fuel, hf⟩ := h
  obtain ⟨a, b, c, h1, h2⟩ := place_in hf
  exact ⟨a, b, c, by simpa [Value.cells] using h1, h2⟩
end
end Go.Proofs.YtkjelfmgnkkijaaGreatDoor
