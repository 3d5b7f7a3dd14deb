/-
  What a row's condition gives (the tables), and a world for the witness. Arguments of any make, read again in a world that leaves the old memory as it was. Submasters, faders and masters handed in, opened. A movement and a source handed in, opened. A movement and a place handed in, opened.
-/
import Derived.Test.YtkjelfmgnkkijaaGreatDoorEnv
import Derived.Test.YtkjelfmgnkkijaaGreatDoorCards
import Derived.Test.YtkjelfmgnkkijaaGreatDoorTie
import Derived.WalkKit
import Derived.ProofKit
import Derived.OpenShut
import Derived.LaidSub
import Derived.Shelf.Vars
import Derived.Deep.DeepHandedRow
import Derived.Deep.DeepWitnessRowRef
import Derived.Lib.LaidTab
import Derived.Lib.SmallJoins
import Derived.Carry
import Derived.WideKeyArgs
import Derived.Test.YtkjelfmgnkkijaaGreatDoorSw
import Derived.Deep.Slices
set_option linter.unusedVariables false
set_option linter.unusedSimpArgs false
namespace Go.Proofs.YtkjelfmgnkkijaaGreatDoor
open Go.ChangeShapes Go.WideShapes Go.ChangeAt Go.RowKit Lum

theorem own : ownKnob Tryz.prog.godebug = none := by kernel_rfl
theorem gPowType : (Tryz.prog.globals[1]?).map (·.type) = some 330 := by kernel_rfl
theorem cellsPow : Tryz.prog.cellsOf 330 = 20 := by kernel_rfl
theorem cellsU64 : Tryz.prog.cellsOf 288 = 1 := by kernel_rfl
theorem lenCell {w : World} (h : w.ShapedOpen Tryz.prog) : ∃ m, w.cell? ⟨0, 0, none⟩ = some (.int .i64 m) :=
  cell_of_shapedOpen_int (t := 3) (zero := #[.int .i64 0]) h (of_decide_eq_true (by kernel_rfl)) (by kernel_rfl) rfl (by kernel_rfl) (by kernel_rfl) Tryz.underlying3
theorem env_of {w : World} (h : laidMetH Tryz.prog Rows.masterGoesRow.laid w) (hs : w.ShapedOpen Tryz.prog) : Env w := by
  have tab : Lib.TabIs Tryz.prog w "internal/strconv.uint64pow10" .u64 Lib.pow10Tab := by
    have h' := (laidMetH.filter (fun x => x.1 == "internal/strconv.uint64pow10") h)
    exact Lib.tabIs_of_head (rest := []) named_pow gPowType Tryz.underlying330 Tryz.underlying288 cellsU64 cellsPow h'
  have l1 := World.block_lt_of_cell? w _ (tab.cell named_pow 0 (by decide))
  obtain ⟨m, hm⟩ := lenCell hs
  exact ⟨tab, ⟨m, hm⟩, l1, World.block_lt_of_cell? w _ hm⟩

/-- The values of a datum of integers. -/
def flat : Nat → DataW Unit → List Value
  | 0, _ => []
  | _ + 1, .lit (.int k z) => [.int k z]
  | n + 1, .agg ds => ds.flatMap (flat n)
  | _ + 1, _ => []
def layVar (h : Array Obj) (g : Nat) (cs : List Value) : Array Obj :=
  h.modify g fun
    | .cells _ t frozen => .cells cs.toArray t frozen
    | o => o
/-- A world that holds what the rows list. -/
noncomputable def laidWorld (os : Os) : World :=
  let w0 := World.holding Tryz.prog os ⟨#[], #[], []⟩
  let n := w0.heap.size
  let w1 := (w0.alloc (.cells #[.string ⟨#[118, 97, 108, 117, 101, 32, 111, 117, 116, 32, 111, 102, 32, 114, 97, 110, 103, 101]⟩] 364)).alloc (.cells #[.string ⟨#[105, 110, 118, 97, 108, 105, 100, 32, 115, 121, 110, 116, 97, 120]⟩] 364)
  { w1 with heap :=
      layVar (layVar (layVar (layVar (layVar (layVar (layVar w1.heap 4 (flat 3 Rows.laid_math_bits_deBruijn32tab)) 5 (flat 3 Rows.laid_math_bits_deBruijn64tab))
        1 (flat 3 Rows.laid_internal_strconv_uint64pow10)) 3 (flat 3 Rows.laid_unicode_utf8_acceptRanges)) 2 (flat 3 Rows.laid_unicode_utf8_first))
        7 [.iface 362 (.pointer (some ⟨n, 0, none⟩))]) 6 [.iface 362 (.pointer (some ⟨n + 1, 0, none⟩))] }
theorem laid_met (os : Os) (args : Array Value) : laidMet Tryz.prog Rows.masterGoesRow.laid ((laidWorld os).forCall (fun _ _ => 0) ⟨#[], args, []⟩).memory :=
  laidMet_of_run' 8 (by kernel_rfl) (by kernel_rfl)
theorem laid_rows (os : Os) (args : Array Value) : (((laidWorld os).forCall (fun _ _ => 0) ⟨#[], args, []⟩).heap.toList.drop Tryz.prog.globals.size).take ((begin Tryz.prog (fun _ _ => 0) default).world.heap.size - Tryz.prog.globals.size) =
      (begin Tryz.prog (fun _ _ => 0) default).world.heap.toList.drop Tryz.prog.globals.size := by kernel_rfl
theorem laid_vars (os : Os) (args : Array Value) : ((laidWorld os).forCall (fun _ _ => 0) ⟨#[], args, []⟩).variablesB Tryz.prog = true := by kernel_rfl
/-- The outcome of a call that leaves what was there as it was. -/
theorem post_of_below {H : Type} {enc : TypeId × Value → H} {P : Program} {f : Func} {s : ChangeSpec} {apart fresh handsOn again : Bool} {W W' : World} {args : Array Value} {v : Value} {ds gs : List (DataW H)} {before pa pv : List MemPlace}
    (hW : DataW.Whole enc P f.params.toList s.vars apart W args.toList ds gs before)
    (hres : ∀ (b : Nat) (sp : Nat → Bool) (hd : Bool), DataW.TrodAll enc P W' b sp hd f.resultTypes.toList (v.resultList f.resultTypes.size) (s.fn H (ds ++ gs)).results [])
    (hargs : ∀ sp : Nat → Bool, (∀ p ∈ before, sp p.block = true) → DataW.TrodAll enc P W' 0 sp true f.params.toList args.toList (s.fn H (ds ++ gs)).args pa)
    (hvars : ∀ sp : Nat → Bool, (∀ p ∈ before, sp p.block = true) → DataW.TrodVars enc P W' sp s.vars (s.fn H (ds ++ gs)).vars pv)
    (hps : before = pa ++ pv) (hb : Below W.heap.size W W')
    (hok : ∀ (j : Nat) (t : TypeId) (r : Value), f.resultTypes[j]? = some t → (v.resultList f.resultTypes.size)[j]? = some r → Value.okWide P W' .any 0 t r) :
    s.post enc P f apart fresh handsOn again W args v W' := by
  have hold : ∀ p ∈ before, (fun b => decide (b < W.heap.size)) p.block = true := fun p hp => by simpa using hW.lt p hp
  have hlt := hW.lt
  refine ⟨ds, gs, before, [], pa, pv, hW, hres _ _ _, hargs _ hold, hvars _ hold, World.keptBut_mono (fun p hp => ⟨hp, ?_⟩) (hb.frame (· ∈ before)), fun _ => ?_⟩
  · rw [hps, List.mem_append] at hp
    exact Or.inr hp
  · obtain ⟨_, _, _, _, _, hz, hn⟩ := hW
    refine ⟨hok, _, _, ([] ++ pa) ++ pv, ⟨[] ++ pa, pv, trodAll_append (hargs _ (fun _ _ => rfl)) (hres _ _ _), hvars _ (fun _ _ => rfl), rfl, ?_, ?_⟩, ?_⟩
    · intro b off hp
      have hp' : MemPlace.cell b off ∈ before := by rw [hps]; simpa using hp
      rw [hb.frozen (p := ⟨b, off, none⟩) (hlt _ hp')]
      exact hz b off hp'
    · intro ha
      have := hn ha
      rw [hps] at this
      simpa using this
    · intro p hp _
      rw [hps]
      simpa using hp
theorem wf_i64 {n : Int} (h : (Lit.int .i64 n).wf = true) : -9223372036854775808 ≤ n ∧ n ≤ 9223372036854775807 := by
  simpa [Lit.wf, IntKind.min, IntKind.max, IntKind.signed, IntKind.bits] using h
theorem wf_u16 {n : Int} (h : (Lit.int .u16 n).wf = true) : 0 ≤ n ∧ n ≤ 65535 := by
  simpa [Lit.wf, IntKind.min, IntKind.max, IntKind.signed, IntKind.bits] using h
theorem wf_u8 {n : Int} (h : (Lit.int .u8 n).wf = true) : 0 ≤ n ∧ n ≤ 255 := by
  simpa [Lit.wf, IntKind.min, IntKind.max, IntKind.signed, IntKind.bits] using h
theorem len_of_str {s : ByteArray} {l : Txt} (h : s = ⟨l.toArray⟩) (hs : s.size ≤ maxLen) : l.length ≤ 9223372036854775807 := by
  subst h
  simpa [ByteArray.size, maxLen] using hs
end Go.Proofs.YtkjelfmgnkkijaaGreatDoor
namespace Go.Proofs.YtkjelfmgnkkijaaGreatDoor
open Go.ChangeShapes Go.WideShapes Go.ChangeAt Go.RowKit Go.Joins Lum
theorem trodAll_stays {H : Type} {enc : TypeId × Value → H} {P : Program} (hl : laidOutB P = true) {W W' : World} {sp' : Nat → Bool} :
    ∀ {ts : List TypeId} {vs : List Value} {ds : List (DataW H)} {ps : List MemPlace}, (∀ t ∈ ts, P.readableRec t = true ∧ t < P.types.size) → DataW.TrodAll enc P W 0 (fun _ => true) true ts vs ds ps →
      (∀ p ∈ ps, W.sameAt W' p) → (∀ p ∈ ps, sp' p.block = true) → DataW.TrodAll enc P W' 0 sp' true ts vs ds ps
  | [], _, _, _, _, h, _, _ => by
    obtain ⟨rfl, rfl, rfl⟩ := trodAll_nil h
    exact trodAll_mk0
  | t :: ts, _, _, _, hT, h, hs, hp => by
    obtain ⟨v, vs', d, ds', p, q, rfl, rfl, rfl, h1, h2⟩ := trodAll_cons h
    exact trodAll_cons_mk (Go.WideElems.Trod_stays hl (hT t (List.mem_cons_self)).1 (hT t (List.mem_cons_self)).2 h1 (fun x hx => hs x (List.mem_append_left _ hx)) (fun x hx => hp x (List.mem_append_left _ hx)))
      (trodAll_stays hl (fun t' h' => hT t' (List.mem_cons_of_mem _ h')) h2 (fun x hx => hs x (List.mem_append_right _ hx)) (fun x hx => hp x (List.mem_append_right _ hx)))
end Go.Proofs.YtkjelfmgnkkijaaGreatDoor
namespace Go.Proofs.YtkjelfmgnkkijaaGreatDoor


open Go.RowKit Go.Shelf Lum Go.ChangeShapes Go.WideShapes Go.ChangeAt Go.Joins
/-- A slice whose elements are read by R. -/
theorem open_els {α : Type} {P : Program} {H : Type} {enc : TypeId × Value → H} {W : World} {base : Nat} {spare : Nat → Bool} {held : Bool} {t e : TypeId} (ht : P.underlying t = some (.slice e)) (k : Nat) (hk : P.cellsOf e = k) (hk0 : 0 < k) (dd : α) (R : List Value → α → Prop)
    (hin : ∀ n cs x, DataW.trod enc P W base spare held n e cs = some x → ∃ a, R cs a) {fuel : Nat} {cs : List Value} {x : DataW H × List MemPlace} (h : DataW.trod enc P W base spare held fuel t cs = some x) :
    ∃ (l : List α) (p : Option Addr) (c : Nat), cs = [.slice p l.length c] ∧ l.length ≤ c ∧ c ≤ maxLen ∧ (l ≠ [] → ∃ b o, p = some ⟨b, o, none⟩ ∧ b < W.heap.size ∧ ∀ i, i < l.length → ∃ cs', R cs' (l[i]?.getD dd) ∧ ∀ j v, cs'[j]? = some v → W.cell? ⟨b, o + i * k + j, none⟩ = some v) := by
  rcases Go.Deep.open_slice ht h with ⟨rfl, -⟩ | ⟨a, len, cap, m, n, D, Pl, rfl, hb, hl, hm, hmm, -, hx⟩
  · exact ⟨[], none, 0, rfl, Nat.le_refl _, by simp, fun h => absurd rfl h⟩
  · have hlm : len ≤ m := by rw [hmm]; split <;> omega
    rw [hk] at hx
    have key : ∀ i, ∃ q : α, i < m → ∃ cs', R cs' q ∧ 0 < cs'.length ∧ ∀ j v, cs'[j]? = some v → W.cell? ((a.add (i * k)).add j) = some v := by
      intro i
      by_cases hi : i < m
      · obtain ⟨cs', h1, h2⟩ := hx i hi
        obtain ⟨q, hq⟩ := hin _ _ _ h2
        obtain ⟨-, hcl, hat⟩ := World.cells?_some h1
        refine ⟨q, fun _ => ⟨cs', hq, by omega, fun j v hj => ?_⟩⟩
        have hjl := (List.getElem?_eq_some_iff.1 hj).1
        rw [hat j (by omega), hj]
      · exact ⟨dd, fun h => absurd h hi⟩
    obtain ⟨q, hq⟩ := Classical.axiomOfChoice key
    have hlen : ((List.range len).map q).length = len := by simp
    refine ⟨(List.range len).map q, some a, cap, by rw [hlen], by rw [hlen]; exact hl, hm, fun hne => ?_⟩
    have h0 : 0 < len := by
      rcases Nat.eq_zero_or_pos len with h | h
      · subst h; exact absurd rfl hne
      · exact h
    obtain ⟨b, off, spot⟩ := a
    have hspot : spot = none := by
      obtain ⟨cs', -, h2, h3⟩ := hq 0 (by omega)
      have := h3 0 _ (List.getElem?_eq_getElem h2)
      rw [Nat.zero_mul] at this
      simpa [Addr.add] using World.cell?_spot this
    subst hspot
    refine ⟨b, off, rfl, ?_, fun i hi => ?_⟩
    · obtain ⟨cs', -, h2, h3⟩ := hq 0 (by omega)
      have := h3 0 _ (List.getElem?_eq_getElem h2)
      rw [add_plain, add_plain] at this
      exact World.block_lt_of_cell? W _ this
    · rw [hlen] at hi
      obtain ⟨cs', h1, -, h3⟩ := hq i (by omega)
      refine ⟨cs', ?_, fun j v hj => ?_⟩
      · simpa [hi] using h1
      · have := h3 j v hj
        rw [add_plain, add_plain] at this
        exact this
section
variable {H : Type} {enc : TypeId × Value → H} {W : World} {base : Nat} {spare : Nat → Bool} {held : Bool}
set_option maxRecDepth 100000 in
theorem param_in {fuel : Nat} {cs : List Value} {x : DataW H × List MemPlace} (h : DataW.trod enc Tryz.prog W base spare held fuel 72 cs = some x) :
    ∃ (ch at_ : Int), cs = [.int .i64 ch, .int .i64 at_] ∧ (-9223372036854775808 ≤ ch ∧ ch ≤ 9223372036854775807) ∧ (-9223372036854775808 ≤ at_ ∧ at_ ≤ 9223372036854775807) := by
  obtain ⟨xs, n, -, -, hl, hxl, hf⟩ := DataW.trod_struct Tryz.underlying72 h
  have kc : cs.length = 2 := hl.trans (by kernel_rfl)
  match cs, kc with
  | [c0, c1], _ =>
    match xs, hxl with
    | [y0, y1], _ =>
      have k0 : Tryz.prog.cellsOf 3 = 1 := by kernel_rfl
      have h0 : DataW.trod enc Tryz.prog W base spare held n 3 [c0] = some y0 := by
        have h : DataW.trod enc Tryz.prog W base spare held n 3 (List.take (Tryz.prog.cellsOf 3) (List.drop 0 [c0, c1])) = [y0, y1][0]? := hf 0 _ rfl
        rw [k0] at h
        exact h
      have k1 : Tryz.prog.cellsOf 3 = 1 := by kernel_rfl
      have h1 : DataW.trod enc Tryz.prog W base spare held n 3 [c1] = some y1 := by
        have h : DataW.trod enc Tryz.prog W base spare held n 3 (List.take (Tryz.prog.cellsOf 3) (List.drop 1 [c0, c1])) = [y0, y1][1]? := hf 1 _ rfl
        rw [k1] at h
        exact h
      obtain ⟨a, e0, -, w0⟩ := DataW.trod_int Tryz.underlying3 h0
      obtain rfl := (List.cons.inj e0).1
      obtain ⟨b, e1, -, w1⟩ := DataW.trod_int Tryz.underlying3 h1
      obtain rfl := (List.cons.inj e1).1
      exact ⟨a, b, rfl, wf_i64 w0, wf_i64 w1⟩

set_option maxRecDepth 100000 in
theorem gain_in {fuel : Nat} {cs : List Value} {x : DataW H × List MemPlace} (h : DataW.trod enc Tryz.prog W base spare held fuel 85 cs = some x) :
    ∃ g : Gn, cs = [.int .i64 g.ch, .int .i64 g.at_, .int .i64 g.lev] := by
  obtain ⟨xs, n, -, -, hl, hxl, hf⟩ := DataW.trod_struct Tryz.underlying85 h
  have kc : cs.length = 3 := hl.trans (by kernel_rfl)
  match cs, kc with
  | [c0, c1, c2], _ =>
    match xs, hxl with
    | [y0, y1], _ =>
      have k0 : Tryz.prog.cellsOf 72 = 2 := by kernel_rfl
      have h0 : DataW.trod enc Tryz.prog W base spare held n 72 [c0, c1] = some y0 := by
        have h : DataW.trod enc Tryz.prog W base spare held n 72 (List.take (Tryz.prog.cellsOf 72) (List.drop 0 [c0, c1, c2])) = [y0, y1][0]? := hf 0 _ rfl
        rw [k0] at h
        exact h
      have k1 : Tryz.prog.cellsOf 3 = 1 := by kernel_rfl
      have h1 : DataW.trod enc Tryz.prog W base spare held n 3 [c2] = some y1 := by
        have h : DataW.trod enc Tryz.prog W base spare held n 3 (List.take (Tryz.prog.cellsOf 3) (List.drop 2 [c0, c1, c2])) = [y0, y1][1]? := hf 1 _ rfl
        rw [k1] at h
        exact h
      obtain ⟨a, b, e0, -, -⟩ := param_in h0
      simp only [List.cons.injEq, and_true] at e0
      obtain ⟨rfl, rfl⟩ := e0
      obtain ⟨c, e2, -, w2⟩ := DataW.trod_int Tryz.underlying3 h1
      obtain rfl := (List.cons.inj e2).1
      exact ⟨⟨a, b, c⟩, rfl⟩

theorem gains_in {fuel : Nat} {cs : List Value} {x : DataW H × List MemPlace} (h : DataW.trod enc Tryz.prog W base spare held fuel 56 cs = some x) : ∃ (gv : Value) (gs : List Gn), cs = [gv] ∧ GnsAt W gv gs := by
  obtain ⟨l, p, c, rfl, hl, -, hc⟩ := open_els Tryz.underlying56 3 (by kernel_rfl) (by omega) (⟨0, 0, 0⟩ : Gn) (fun cs g => cs = [.int .i64 g.ch, .int .i64 g.at_, .int .i64 g.lev]) (fun _ _ _ h => gain_in h) h
  refine ⟨_, l, rfl, p, c, rfl, hl, fun hn => ?_⟩
  obtain ⟨b, o, hp, hb, hc⟩ := hc hn
  refine ⟨b, o, hp, hb, fun i hi => ?_⟩
  obtain ⟨cs', rfl, h1⟩ := hc i hi
  exact ⟨h1 0 _ rfl, h1 1 _ rfl, h1 2 _ rfl⟩

set_option maxRecDepth 100000 in
theorem sub_in {fuel : Nat} {cs : List Value} {x : DataW H × List MemPlace} (h : DataW.trod enc Tryz.prog W base spare held fuel 58 cs = some x) :
    ∃ (s : Sb) (gv : Value), cs = [.int .i64 s.nu, .int .i64 s.pr, .bool s.inh, gv] ∧ GnsAt W gv s.gs ∧ (-9223372036854775808 ≤ s.nu ∧ s.nu ≤ 9223372036854775807) ∧ (-9223372036854775808 ≤ s.pr ∧ s.pr ≤ 9223372036854775807) := by
  obtain ⟨xs, n, -, -, hl, hxl, hf⟩ := DataW.trod_struct Tryz.underlying58 h
  have kc : cs.length = 4 := hl.trans (by kernel_rfl)
  match cs, kc with
  | [c0, c1, c2, c3], _ =>
    match xs, hxl with
    | [y0, y1, y2, y3], _ =>
      have k0 : Tryz.prog.cellsOf 3 = 1 := by kernel_rfl
      have h0 : DataW.trod enc Tryz.prog W base spare held n 3 [c0] = some y0 := by
        have h : DataW.trod enc Tryz.prog W base spare held n 3 (List.take (Tryz.prog.cellsOf 3) (List.drop 0 [c0, c1, c2, c3])) = [y0, y1, y2, y3][0]? := hf 0 _ rfl
        rw [k0] at h
        exact h
      have k1 : Tryz.prog.cellsOf 3 = 1 := by kernel_rfl
      have h1 : DataW.trod enc Tryz.prog W base spare held n 3 [c1] = some y1 := by
        have h : DataW.trod enc Tryz.prog W base spare held n 3 (List.take (Tryz.prog.cellsOf 3) (List.drop 1 [c0, c1, c2, c3])) = [y0, y1, y2, y3][1]? := hf 1 _ rfl
        rw [k1] at h
        exact h
      have k2 : Tryz.prog.cellsOf 4 = 1 := by kernel_rfl
      have h2 : DataW.trod enc Tryz.prog W base spare held n 4 [c2] = some y2 := by
        have h : DataW.trod enc Tryz.prog W base spare held n 4 (List.take (Tryz.prog.cellsOf 4) (List.drop 2 [c0, c1, c2, c3])) = [y0, y1, y2, y3][2]? := hf 2 _ rfl
        rw [k2] at h
        exact h
      have k3 : Tryz.prog.cellsOf 56 = 1 := by kernel_rfl
      have h3 : DataW.trod enc Tryz.prog W base spare held n 56 [c3] = some y3 := by
        have h : DataW.trod enc Tryz.prog W base spare held n 56 (List.take (Tryz.prog.cellsOf 56) (List.drop 3 [c0, c1, c2, c3])) = [y0, y1, y2, y3][3]? := hf 3 _ rfl
        rw [k3] at h
        exact h
      obtain ⟨a, e0, -, w0⟩ := DataW.trod_int Tryz.underlying3 h0
      obtain rfl := (List.cons.inj e0).1
      obtain ⟨b, e1, -, w1⟩ := DataW.trod_int Tryz.underlying3 h1
      obtain rfl := (List.cons.inj e1).1
      obtain ⟨c, e2, -⟩ := DataW.trod_bool Tryz.underlying4 h2
      obtain rfl := (List.cons.inj e2).1
      obtain ⟨gv, gs, e3, hg⟩ := gains_in h3
      obtain rfl := (List.cons.inj e3).1
      exact ⟨⟨a, b, c, gs⟩, _, rfl, hg, wf_i64 w0, wf_i64 w1⟩

theorem subs_in {fuel : Nat} {cs : List Value} {x : DataW H × List MemPlace} (h : DataW.trod enc Tryz.prog W base spare held fuel 25 cs = some x) : ∃ (v : Value) (l : List Sb), cs = [v] ∧ SbsAt W v l ∧ l.length ≤ maxLen := by
  obtain ⟨l, p, c, rfl, hl, hm, hc⟩ := open_els Tryz.underlying25 4 (by kernel_rfl) (by omega) (⟨0, 0, false, []⟩ : Sb) (fun cs s => ∃ gv, cs = [.int .i64 s.nu, .int .i64 s.pr, .bool s.inh, gv] ∧ GnsAt W gv s.gs) (fun _ _ _ h => by obtain ⟨s, gv, h1, h2, -, -⟩ := sub_in h; exact ⟨s, gv, h1, h2⟩) h
  refine ⟨_, l, rfl, ⟨p, c, rfl, hl, fun hn => ?_⟩, by omega⟩
  obtain ⟨b, o, hp, hb, hc⟩ := hc hn
  refine ⟨b, o, hp, hb, fun i hi => ?_⟩
  obtain ⟨cs', ⟨gv, rfl, hg⟩, h1⟩ := hc i hi
  exact ⟨h1 0 _ rfl, h1 1 _ rfl, h1 2 _ rfl, gv, h1 3 _ rfl, hg⟩

variable {r : Reach} {b0 : Nat} {v : Value} {d : DataW H} {p : List MemPlace}
set_option maxRecDepth 100000 in
theorem open_subs (hv : Value.okWide Tryz.prog W r b0 25 v) (h : DataW.Trod enc Tryz.prog W base spare held 25 v d p) : ∃ l : List Sb, SbsAt W v l ∧ l.length ≤ maxLen := by
  obtain ⟨a0, len, cap, rfl⟩ := okWide_slice Tryz.underlying25 hv
  obtain ⟨fuel, hf⟩ := h
  obtain ⟨v, l, h1, h2, h3⟩ := subs_in hf
  obtain rfl := (List.cons.inj h1).1
  exact ⟨l, h2, h3⟩
set_option maxRecDepth 100000 in
theorem open_sub (hv : Value.okWide Tryz.prog W r b0 58 v) (h : DataW.Trod enc Tryz.prog W base spare held 58 v d p) : ∃ (s : Sb) (gv : Value), v = .agg #[.int .i64 s.nu, .int .i64 s.pr, .bool s.inh, gv] ∧ GnsAt W gv s.gs := by
  obtain ⟨cs, rfl, hsz⟩ := okWide_struct Tryz.underlying58 hv
  obtain ⟨l⟩ := cs
  obtain ⟨fuel, hf⟩ := h
  obtain ⟨s, gv, h1, h2, -, -⟩ := sub_in hf
  exact ⟨s, gv, by simpa [Value.cells] using h1, h2⟩
end
end Go.Proofs.YtkjelfmgnkkijaaGreatDoor
namespace Go.Proofs.YtkjelfmgnkkijaaGreatDoor


open Go.RowKit Go.Shelf Lum Go.ChangeShapes Go.WideShapes Go.ChangeAt Go.Joins
section
variable {H : Type} {enc : TypeId × Value → H} {W : World} {base : Nat} {spare : Nat → Bool} {held : Bool}
variable {r : Reach} {b0 : Nat} {v : Value} {d : DataW H} {p : List MemPlace}
end
end Go.Proofs.YtkjelfmgnkkijaaGreatDoor
namespace Go.Proofs.YtkjelfmgnkkijaaGreatDoor


open Go.RowKit Go.Shelf Lum Go.ChangeShapes Go.WideShapes Go.ChangeAt Go.Joins
section
variable {H : Type} {enc : TypeId × Value → H} {W : World} {base : Nat} {spare : Nat → Bool} {held : Bool}
variable {r : Reach} {b0 : Nat} {v : Value} {d : DataW H} {p : List MemPlace}
end
end Go.Proofs.YtkjelfmgnkkijaaGreatDoor
