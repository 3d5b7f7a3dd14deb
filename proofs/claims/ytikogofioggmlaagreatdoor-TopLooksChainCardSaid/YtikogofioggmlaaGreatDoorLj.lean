/-
  The parameters that a list moves.
-/
import Derived.Test.YtikogofioggmlaaGreatDoorLi
import Derived.Maps.Own
import Derived.Maps.Views
import Derived.DeepKeys4
import Derived.OpenShut
set_option linter.unusedVariables false
set_option linter.unusedSimpArgs false
namespace Lum
open Go Go.RowKit Go.Shelf
open Go.Lib (decDigits itoa)
/-- Each one once, in the order in which they come. -/
def dedF (l : List (Int × Int)) : List (Int × Int) := l.foldl (fun acc p => if p ∈ acc then acc else acc ++ [p]) []
theorem dedF_snoc (l : List (Int × Int)) (p : Int × Int) : dedF (l ++ [p]) = if p ∈ dedF l then dedF l else dedF l ++ [p] := by
  unfold dedF; rw [List.foldl_append]; rfl
theorem snoc_cases {α : Type} (l : List α) : l = [] ∨ ∃ r a, l = r ++ [a] := by
  rcases List.eq_nil_or_concat l with h | ⟨r, a, h⟩
  · exact .inl h
  · exact .inr ⟨r, a, by rw [h, List.concat_eq_append]⟩
theorem dedF_mem : ∀ (n : Nat) {l : List (Int × Int)}, l.length = n → ∀ p, p ∈ dedF l ↔ p ∈ l
  | 0, l, h, p => by obtain rfl := List.length_eq_zero_iff.1 h; exact Iff.rfl
  | n + 1, l, h, p => by
    rcases snoc_cases l with rfl | ⟨r, a, rfl⟩
    · cases h
    · have hr : r.length = n := by rw [List.length_append] at h; simpa using h
      have ih := dedF_mem n hr
      rw [dedF_snoc, List.mem_append, List.mem_singleton]
      by_cases g : a ∈ dedF r
      · rw [if_pos g, ih]
        constructor
        · exact Or.inl
        · rintro (h | rfl); exact h; exact (ih _).1 g
      · rw [if_neg g, List.mem_append, List.mem_singleton, ih]
theorem dedF_nodup : ∀ (n : Nat) {l : List (Int × Int)}, l.length = n → (dedF l).Pairwise (fun a b => a ≠ b)
  | 0, l, h => by obtain rfl := List.length_eq_zero_iff.1 h; exact List.Pairwise.nil
  | n + 1, l, h => by
    rcases snoc_cases l with rfl | ⟨r, a, rfl⟩
    · cases h
    · have hr : r.length = n := by rw [List.length_append] at h; simpa using h
      rw [dedF_snoc]
      by_cases g : a ∈ dedF r
      · rw [if_pos g]; exact dedF_nodup n hr
      · rw [if_neg g]
        exact List.pairwise_append.2 ⟨dedF_nodup n hr, List.pairwise_singleton _ _, fun x hx y hy e => g (by rw [List.mem_singleton.1 hy] at e; rw [← e]; exact hx)⟩
theorem dedF_len : ∀ (n : Nat) {l : List (Int × Int)}, l.length = n → (dedF l).length ≤ n
  | 0, l, h => by obtain rfl := List.length_eq_zero_iff.1 h; exact Nat.le_refl _
  | n + 1, l, h => by
    rcases snoc_cases l with rfl | ⟨r, a, rfl⟩
    · cases h
    · have hr : r.length = n := by rw [List.length_append] at h; simpa using h
      have ih := dedF_len n hr
      rw [dedF_snoc]
      by_cases g : a ∈ dedF r
      · rw [if_pos g]; omega
      · rw [if_neg g, List.length_append]; simp; omega
/-- A parameter's ints are ints. -/
def encPm (x : Int × Int) : List Value := [.int .i64 x.1, .int .i64 x.2]
theorem encPm_len : ∀ x, (encPm x).length = 2 := fun _ => rfl
theorem encPm_one (x : Int × Int) : ∀ v ∈ encPm x, v.oneCell' = true := by
  intro v hv
  simp only [encPm, List.mem_cons, List.not_mem_nil, or_false] at hv
  rcases hv with rfl | rfl <;> rfl
def Rng (p : Int × Int) : Prop := (1 ≤ p.1 ∧ p.1 ≤ 999) ∧ 0 ≤ p.2 ∧ p.2 < 15
theorem wf64 {a : Int} (h : -9223372036854775808 ≤ a ∧ a ≤ 9223372036854775807) : (Lit.int .i64 a).wf = true := by
  simpa [Lit.wf, IntKind.min, IntKind.max, IntKind.signed, IntKind.bits] using h
theorem ownsMap_below {H : Type} {P : Program} {k : TypeId} {R : Value → Option (DataW H × List MemPlace)} {w w' : World} {b n : Nat} {D : DataW H} (h : w.ownsMap P k R b n D) (hb : Below w.heap.size w w') : w'.ownsMap P k R b n D := by
  have hlt := h.lt
  obtain ⟨es, clock, h1, h2⟩ := h
  exact ⟨es, clock, (hb.block b hlt).trans h1, h2⟩
theorem plainElem_bool_inv {H : Type} {P : Program} {e : TypeId} (he : P.underlying e = some .bool) {v : Value} {c : Bool} {ps : List MemPlace} (h : plainElem (H := H) P e v = some (.lit (.bool c), ps)) : v = .bool c := by
  unfold plainElem at h
  rw [he] at h
  cases v <;> simp at h
  obtain ⟨rfl, -⟩ := h
  rfl
/-- A look-up in a set (a map of bools) that the call has made. -/
theorem wpList_lookup_seen {H : Type} {P : Program} (w : World) {ops : Array Oper} {rest : List Oper} {o : Oper} {a : Act} {Q : Exit → Act → World → Prop}
    (hg : o.guard = none) (m x : Operand) (t : TypeId) (hop : o.op = Op.lookup t m x false)
    (k e : TypeId) (K : Maps.Keyed P k) (ht : P.underlying t = some (.map k e)) (he : P.underlying e = some .bool) (hz : (zeroValue e).run P w = .ok (.bool false) w) (b n : Nat) (D : DataW H)
    (hm : a.eval m = .map (some b)) (hown : w.ownsMap P k (plainElem P e) b n D) (key : Value) (kl : Lit) (hx : a.eval x = key) (hkey : keyOf P k key = some kl) (c : Bool) (hc : D.atKey kl (.lit (.bool false)) = .lit (.bool c))
    (hK : wpList P ops Q rest (a.put o.dst (.bool c)) w) :
    wpList P ops Q (o :: rest) a w := by
  refine wpList_plain hg fun K' hK' => ?_
  obtain ⟨v, ps, hrun, hv⟩ := hown.lookup K ht hz (plainElem_bool he false) hkey
  rw [hc] at hv
  obtain rfl := plainElem_bool_inv he hv
  unfold Oper.wp
  simp [execOp, hop, hm, hx, hrun, Result.andThen]
  exact hK' _ _ hK
end Lum
namespace Go.Proofs.YtikogofioggmlaaGreatDoor
open Go.RowKit Go.Shelf Lum
open Go.Lib (decDigits itoa)
attribute [local go_sem] bs_get bs_extract_end bs_extract_from bs_extract bs_append

theorem laidO : laidOutB Tryz.prog = true := by kernel_rfl
theorem pm_row : (39 : TypeId) < Tryz.prog.types.size := of_decide_eq_true (by kernel_rfl)
theorem pm_deep : Tryz.prog.keyTypeAt (Tryz.prog.types.size + 1) 39 = true := by kernel_rfl
theorem pm_wide : (match Tryz.prog.underlying 39 with | some (.array _ _) | some (.struct _) => true | _ => false) = true := by rw [Tryz.underlying39]
set_option maxRecDepth 100000 in
theorem pm_law : WideMaps.KeyLaw Tryz.prog 39 := deep_law_laid laidO (m := 2) (by omega) pm_row (by kernel_rfl) pm_wide
theorem pm_cells : Tryz.prog.cellsOf 39 = 2 := by kernel_rfl
theorem int_cells : Tryz.prog.cellsOf 3 = 1 := by kernel_rfl
set_option maxRecDepth 100000 in
theorem pm_formed (a b : Int) : (Value.agg #[.int .i64 a, .int .i64 b]).formed Tryz.prog 39 = true := by simp [Value.formed, Tryz.underlying39, pm_cells]
set_option maxRecDepth 100000 in
theorem pm_trod (a b : Int) (ha : (Lit.int .i64 a).wf = true) (hb : (Lit.int .i64 b).wf = true) : DataW.Trod (H := Unit) (fun _ => ()) Tryz.prog default 0 (fun _ => false) false 39 (.agg #[.int .i64 a, .int .i64 b]) (.agg [.lit (.int .i64 a), .lit (.int .i64 b)]) [] := by
  refine ⟨2, ?_⟩
  simp [DataW.trod, Tryz.underlying39, pm_cells, int_cells, Value.cells, Tryz.underlying3, ha, hb]
noncomputable def pmV (p : Int × Int) : Value := .agg #[.int .i64 p.1, .int .i64 p.2]
noncomputable def pmK (p : Int × Int) : Lit := (keyOf Tryz.prog 39 (pmV p)).getD (.bool false)
set_option maxRecDepth 100000 in
theorem pmK_of {p : Int × Int} (h : Rng p) : keyOf Tryz.prog 39 (pmV p) = some (pmK p) := by
  obtain ⟨⟨h1, h2⟩, h3, h4⟩ := h
  have e := (keyOf_asKey pm_deep pm_wide (pm_formed p.1 p.2) (pm_trod p.1 p.2 (wf64 (by omega)) (wf64 (by omega)))).1
  unfold pmK
  rw [show keyOf Tryz.prog 39 (pmV p) = _ from e]
  rfl
theorem pmK_inj {p q : Int × Int} (hp : Rng p) (hq : Rng q) (h : pmK p = pmK q) : p = q := by
  have h1 := pmK_of hp
  have h2 := pmK_of hq
  rw [← h] at h2
  have e := pm_law.inj h1 h2
  unfold pmV at e
  have e0 : (#[.int .i64 p.1, .int .i64 p.2] : Array Value) = #[.int .i64 q.1, .int .i64 q.2] := Value.agg.inj e
  have e2 := congrArg Array.toList e0
  simp at e2
  exact Prod.ext e2.1 e2.2
/-- The set of those that have been seen. -/
def SeenAt (W : World) (B n : Nat) (out : List (Int × Int)) : Prop := ∃ D : DataW Unit, W.ownsMap Tryz.prog 39 (plainElem Tryz.prog 4) B n D ∧ Maps.IsMap D ∧ ∀ p, Rng p → D.atKey (pmK p) (.lit (.bool false)) = .lit (.bool (decide (p ∈ out)))
theorem SeenAt.kept {W W' : World} {B n : Nat} {out : List (Int × Int)} (h : SeenAt W B n out) (hb : Below W.heap.size W W') : SeenAt W' B n out := by
  obtain ⟨D, h1, h2, h3⟩ := h
  exact ⟨D, ownsMap_below h1 hb, h2, h3⟩
set_option maxRecDepth 100000 in
theorem SeenAt.made (w : World) : SeenAt (w.alloc (.map #[] 0)) w.heap.size 0 [] :=
  ⟨_, World.ownsMap_made w _ _ _, Maps.isMap_empty, fun p hp => by rw [decide_eq_false (by simp)]; rfl⟩
set_option maxRecDepth 100000 in
theorem SeenAt.put {W : World} {B n : Nat} {S : List (Int × Int)} {D : DataW Unit} {x : Int × Int} (hx : Rng x) (h : W.ownsMap Tryz.prog 39 (plainElem Tryz.prog 4) B n (D.put (pmK x) (.lit (.bool true)))) (h2 : Maps.IsMap D) (h3 : ∀ p, Rng p → D.atKey (pmK p) (.lit (.bool false)) = .lit (.bool (decide (p ∈ S)))) : SeenAt W B n (S ++ [x]) := by
  refine ⟨_, h, h2.put _ _, fun p hp => ?_⟩
  by_cases e : p = x
  · subst e
    rw [Maps.atKey_put_same h2 ((Maps.Keyed.of_law pm_law).key (pmK_of hp))]
    rw [decide_eq_true (List.mem_append.2 (.inr (List.mem_singleton.2 rfl)))]
  · rw [Maps.atKey_put_other (fun h => e (pmK_inj hp hx h)), h3 p hp]
    by_cases g : p ∈ S
    · rw [decide_eq_true g, decide_eq_true (List.mem_append.2 (.inl g))]
    · rw [decide_eq_false g, decide_eq_false (fun h => (List.mem_append.1 h).elim g (fun h => e (List.mem_singleton.1 h)))]
/-- What the two loops keep. -/
structure FpS (w wr : World) (S O : List (Int × Int)) (pp : Option Addr) (cc : Nat) : Prop where
  below : Below w.heap.size w wr
  big : w.heap.size + 2 ≤ wr.heap.size
  seen : ∃ n, n ≤ S.length ∧ SeenAt wr (w.heap.size + 1) n S
  out : OwnR encPm 2 (w.heap.size + 2) 39 wr pp cc O
theorem FpS.kept {w wr W : World} {S O : List (Int × Int)} {pp : Option Addr} {cc : Nat} (h : FpS w wr S O pp cc) (hb : Below wr.heap.size wr W) : FpS w W S O pp cc :=
  ⟨bch' h.below hb, Nat.le_trans h.big hb.size, let ⟨n, h1, h2⟩ := h.seen; ⟨n, h1, h2.kept hb⟩, h.out.keep hb⟩
theorem FpS.put {w wr W : World} {S O : List (Int × Int)} {pp : Option Addr} {cc n : Nat} {D : DataW Unit} {x : Int × Int} (h : FpS w wr S O pp cc) (hn : n ≤ S.length) (hx : Rng x) (h1 : W.ownsMap Tryz.prog 39 (plainElem Tryz.prog 4) (w.heap.size + 1) (n + 1) (D.put (pmK x) (.lit (.bool true)))) (h2 : Maps.IsMap D) (h3 : ∀ p, Rng p → D.atKey (pmK p) (.lit (.bool false)) = .lit (.bool (decide (p ∈ S)))) (hg : wr.grownBy W (some (w.heap.size + 1))) : FpS w W (S ++ [x]) O pp cc := by
  have hB := h.big
  refine ⟨h.below.grown hg (by omega) (fun k e => by cases e; omega), Nat.le_trans hB hg.size, ⟨n + 1, by rw [List.length_append]; simp; omega, SeenAt.put hx h1 h2 h3⟩, ?_⟩
  refine World.ownsRow.kept h.out hg ?_
  cases pp with
  | none => exact .inl rfl
  | some a => exact .inr (fun e => by have := (h.out.lt a rfl).1; injection e with e; omega)
theorem FpS.app {w wr W : World} {S O O2 : List (Int × Int)} {pp p2 : Option Addr} {cc c2 : Nat} (h : FpS w wr S O pp cc) (ho : OwnR encPm 2 (w.heap.size + 2) 39 W p2 c2 O2) (hb : Below (w.heap.size + 2) wr W) : FpS w W S O2 p2 c2 := by
  refine ⟨h.below.trans (hb.mono (by omega)), Nat.le_trans h.big hb.size, ?_, ho⟩
  obtain ⟨n, h1, D, h2, h3⟩ := h.seen
  obtain ⟨es, clock, h4, h5⟩ := h2
  exact ⟨n, h1, D, ⟨es, clock, (hb.block _ (by omega)).trans h4, h5⟩, h3⟩
theorem info_pm : (Tryz.prog.info? 39).map (fun i => (i.zero, i.size, i.bytes)) = some (some (.agg #[.int .i64 0, .int .i64 0]), 2, 16) := by kernel_rfl
end Go.Proofs.YtikogofioggmlaaGreatDoor
