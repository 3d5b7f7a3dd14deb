/-
  The iterator (magnitude).down: its contract.
  (magnitude).cut.
-/
import Derived.RangeFuncNested
import Derived.RangeFuncBound
import Derived.RangeFuncCalls
import Derived.RangeFuncLeaves
import Derived.RangeFuncBox
import Derived.Shelf.Abstract
import Derived.WalkKit
import Derived.OwnWalkIn
import Derived.TacticsInMore
import Derived.LoopNIn
import Derived.LoopIn
import Derived.Maps.AppendAt
import Derived.Test.YtbeojahilbglcaaGreatDoorOwn
set_option linter.unusedVariables false
set_option linter.unusedSimpArgs false
namespace Lum
open Go Go.RowKit Go.Shelf
/-- The places in the order in which down yields them: the first k. -/
def dnF (n k : Nat) : List (Fin n) := (List.finRange n).reverse.take k
theorem dnF_succ (n k : Nat) (h : k < n) : dnF n (k + 1) = dnF n k ++ [⟨n - 1 - k, by omega⟩] := by
  unfold dnF
  rw [List.take_succ_eq_append_getElem (by simpa using h)]
  congr 1
  simp [List.getElem_reverse]
theorem dnF_length (n k : Nat) (h : k ≤ n) : (dnF n k).length = k := by simp [dnF]; omega
theorem dnF_zero (n : Nat) : dnF n 0 = [] := by simp [dnF]
/-- What comes behind the first k, is the next one. -/
theorem dnF_snoc {n : Nat} {pre : List (Fin n)} {x : Fin n} (h : pre ++ [x] = dnF n (pre.length + 1)) (hl : pre.length < n) : pre = dnF n pre.length ∧ x.1 + pre.length + 1 = n := by
  rw [dnF_succ n _ hl] at h
  obtain ⟨h1, h2⟩ := List.append_inj' h rfl
  refine ⟨h1, ?_⟩
  have : x = ⟨n - 1 - pre.length, by omega⟩ := by simpa using h2
  rw [this]; simp; omega
/-- What a round that goes on keeps: whatever lay below n₀, and block Bs. -/
def KeepB (n₀ Bs : Nat) (W W' : World) : Prop := Below n₀ W W' ∧ W'.heap[Bs]? = W.heap[Bs]?
theorem KeepB.refl (n₀ Bs : Nat) (W : World) : KeepB n₀ Bs W W := ⟨Below.refl _ _, rfl⟩
theorem KeepB.t {n₀ Bs : Nat} {A B C : World} (h : KeepB n₀ Bs A B) (k : KeepB n₀ Bs B C) : KeepB n₀ Bs A C := ⟨h.1.trans k.1, k.2.trans h.2⟩
theorem KeepB.b {n₀ Bs : Nat} {w : World} (hn : n₀ ≤ w.heap.size) (hB : Bs < w.heap.size) (W : World) (l : Nat) (o o' : Obj) (hl : w.heap.size ≤ l) (h : W.heap[l]? = some o) (h1 : o.isCells = false) (h2 : o.isWalk = false) : KeepB n₀ Bs W (W.putObj l o') :=
  ⟨belowK_b hn W l o o' hl h h1 h2, World.putObj_heap_other (by omega)⟩
theorem KeepB.setCell {n₀ Bs : Nat} {W0 W : World} (h : KeepB n₀ Bs W0 W) {p : Addr} (hp : n₀ ≤ p.block) (hne : Bs ≠ p.block) (u : Value) : KeepB n₀ Bs W0 (W.setCell p u) :=
  ⟨h.1.setCell hp u, (Below.heap_setCell _ _ _ _ hne).trans h.2⟩
theorem KeepB.below {n₀ Bs m : Nat} {W0 W W' : World} (h : KeepB n₀ Bs W0 W) (hb : Below m W W') (hn : n₀ ≤ m) (hB : Bs < m) : KeepB n₀ Bs W0 W' :=
  ⟨h.1.trans (hb.mono hn), (hb.block _ hB).trans h.2⟩
theorem KeepB.alloc {n₀ Bs : Nat} {W0 W : World} (h : KeepB n₀ Bs W0 W) (o : Obj) (hn : n₀ ≤ W.heap.size) (hB : Bs < W.heap.size) : KeepB n₀ Bs W0 (W.alloc o) :=
  h.below ((Below.refl W.heap.size W).alloc (Nat.le_refl _) o) hn hB
/-- The word at a place. -/
def wAt (ws : List Nat) (i : Fin ws.length) : Nat := ws[i.1]?.getD 0
end Lum
namespace Go.Proofs.YtbeojahilbglcaaGreatDoor
open Go.RowKit Go.Shelf Lum
attribute [local go_sem] Oper.semAt_some

set_option maxRecDepth 100000 in
set_option maxHeartbeats 2000000 in
theorem down1_in (F : Fence) (n : Nat) (hf : F.fn 254) (hro : F.round = none) (hn : 1 ≤ n) (l Bs n₀ b off cap : Nat) (ws : List Nat) (hlen : ws.length ≤ 1000000000) (hb : b < n₀) (J Jx : List (Fin ws.length) → World → Prop)
    (hY : ∀ pre x W, J pre W → pre.length < ws.length → YieldAt F (n - 1) Tryz.prog l #[.int .i64 (x.1 : Int), .int .u64 (wAt ws x : Int)] W fun e W' =>
      (e = .returned (.bool true) ∧ J (pre ++ [x]) W' ∧ KeepB n₀ Bs W W') ∨ (e = .returned (.bool false) ∧ Jx (pre ++ [x]) W'))
    (W : World) (hBs : Boxed W Bs 243 (.slice (some ⟨b, off, none⟩) ws.length cap)) (hc : ∀ j, j < ws.length → W.cell? ⟨b, off + j, none⟩ = some (.int .u64 (ws[j]?.getD 0 : Nat))) (h0 : J [] W) :
    CallsIn F n Tryz.prog 254 #[.func (.yield l) #[] #[], .pointer (some ⟨Bs, 0, none⟩)] W fun e W' => (∃ v, e = .returned v) ∧
      ((∃ ys, ys = dnF ws.length ws.length ∧ J ys W') ∨ (∃ pre, (∃ k, k ≤ ws.length ∧ pre = dnF ws.length k) ∧ Jx pre W')) := by
  refine callsIn_of_wp Tryz.func254 rfl hf ?_ hro
  simp only [Tryz.ntmps254, List.size_toArray, List.length_cons, List.length_nil, Nat.reduceAdd, Nat.reduceSub, Array.replicate_succ, Array.replicate_zero, List.push_toArray, List.append_toArray, List.nil_append, List.cons_append]
  have hBc := hBs.cell
  gi_wp2
  gi_loopw [3] (fun i wr => ∃ k r : Nat, Hid (k + r = ws.length) ∧ i = .int .i64 ((r : Int) - 1) ∧ J (dnF ws.length k) wr ∧ KeepB n₀ Bs W wr)
    (fun i _ => (intOf i + 1).toNat)
  case atStart => exact ⟨0, ws.length, Lib.hid (by omega), rfl, h0, KeepB.refl _ _ _⟩
  case round =>
    obtain ⟨k, r, hk, rfl, hJs, hnx⟩ := hrel
    cases r with
    | zero =>
      have hkl : k = ws.length := hk.out
      have e : ((0 : Nat) : Int) - 1 = -1 := rfl
      rw [e]
      gi_wp2
      go_end0
      exact ⟨⟨_, rfl⟩, .inl ⟨_, rfl, hkl ▸ hJs⟩⟩
    | succ m =>
      have hm : m < ws.length := by have := hk.out; omega
      have e : ((m + 1 : Nat) : Int) - 1 = m := by omega
      rw [e]
      have hcx : wr.cell? ⟨b, off + m, none⟩ = some (.int .u64 (ws[m]?.getD 0 : Nat)) := (hnx.1.cell (p := ⟨b, off + m, none⟩) hb).trans (hc m hm)
      have hbx : wr.cell? ⟨Bs, 0, none⟩ = some (.slice (some ⟨b, off, none⟩) ws.length cap) := Boxed.cell (hnx.2.trans hBs)
      have hsn : dnF ws.length (k + 1) = dnF ws.length k ++ [⟨m, hm⟩] := by
        rw [dnF_succ _ _ (by have := hk.out; omega)]; congr 3; have := hk.out; omega
      obtain ⟨fn, tmps, assign, body, hy, hR⟩ := hY _ ⟨m, hm⟩ wr hJs (by rw [dnF_length _ _ (by have := hk.out; omega)]; have := hk.out; omega)
      dsimp only at hy
      change wr.cell? _ = some (.int .u64 (wAt ws ⟨m, hm⟩ : Nat)) at hcx
      generalize wAt ws ⟨m, hm⟩ = x at *
      have HSN := Lib.hid hsn; clear hsn
      gi_wp2
      refine hR.mono ?_
      rintro e W3 (⟨rfl, hJ3, hk3⟩ | ⟨rfl, hJx3⟩)
      · gi_wp2
        go_roundw
        case rel => exact ⟨k + 1, m, Lib.hid (by have := hk.out; omega), rfl, by rw [HSN.out]; exact hJ3, hnx.t hk3⟩
        case measure => simp [intOf]
      · gi_wp2
        refine bodyPost_ret (results_none rfl _ _ _) rfl ?_
        exact ⟨⟨_, rfl⟩, .inr ⟨_, ⟨k + 1, by have := hk.out; omega, HSN.out.symm⟩, hJx3⟩⟩

set_option maxRecDepth 100000 in
set_option maxHeartbeats 1000000 in
theorem down1_nil_in (F : Fence) (n : Nat) (hf : F.fn 254) (hro : F.round = none) (l Bs : Nat) (J : List (Fin 0) → World → Prop) (W : World) (hBs' : Boxed W Bs 243 (.slice none 0 0)) (h0 : J [] W) :
    CallsIn F n Tryz.prog 254 #[.func (.yield l) #[] #[], .pointer (some ⟨Bs, 0, none⟩)] W fun e W' => (∃ v, e = .returned v) ∧ J [] W' := by
  refine callsIn_of_wp Tryz.func254 rfl hf ?_ hro
  simp only [Tryz.ntmps254, List.size_toArray, List.length_cons, List.length_nil, Nat.reduceAdd, Nat.reduceSub, Array.replicate_succ, Array.replicate_zero, List.push_toArray, List.append_toArray, List.nil_append, List.cons_append]
  have hBs := hBs'.cell
  gi_wp2
  gi_loopw [3] (fun i wr => i = .int .i64 (-1) ∧ J [] wr) (fun _ _ => 0)
  case atStart => exact ⟨rfl, h0⟩
  case round =>
    obtain ⟨rfl, hJs⟩ := hrel
    gi_wp2
    go_end0
    exact ⟨⟨_, rfl⟩, hJs⟩

set_option maxHeartbeats 1000000 in
theorem down_in (F : Fence) (n : Nat) (hf : F.fn 232) (hro : F.round = none) (a : Option Addr) (len cap : Nat) (w : World) :
    CallsIn F n Tryz.prog 232 #[.slice a len cap] w fun e w' => e = .returned (.func (.func 254) #[] #[.pointer (some ⟨w.heap.size, 0, none⟩)]) ∧ w' = w.alloc (.cells #[.slice a len cap] 243) := by
  refine callsIn_of_wp Tryz.func232 rfl hf ?_ hro
  simp only [Tryz.ntmps232, List.size_toArray, List.length_cons, List.length_nil, Nat.reduceAdd, Nat.reduceSub, Array.replicate_succ, Array.replicate_zero, List.push_toArray, List.append_toArray, List.nil_append, List.cons_append]
  gi_wp2
  go_ret
  exact ⟨rfl, rfl⟩

/-- What the loop over down is handed: all the words from the highest one on, or the first k of them. -/
theorem down_stops (F : Fence) (n : Nat) (hf : F.fn 254) (hro : F.round = none) (hn : 1 ≤ n) (Bs n₀ : Nat) (sv : Value) (ws : List Nat) (hlen : ws.length ≤ 1000000000) (w : World) (hn₀ : n₀ ≤ w.heap.size)
    (hc : Boxed w Bs 243 sv) (W0 : World) (hI : NatsAt .u64 W0 sv ws) (hW0 : W0.heap.size = n₀) (hb0 : Below n₀ W0 w) :
    SeqStopsK F n Tryz.prog 254 #[.pointer (some ⟨Bs, 0, none⟩)] (fun x : Fin ws.length => #[Value.int .i64 (x.1 : Int), Value.int .u64 (wAt ws x : Int)]) (KeepB n₀ Bs) (fun ys => ys = dnF ws.length ws.length)
      (fun pre => ∃ k, k ≤ ws.length ∧ pre = dnF ws.length k) ws.length w := fun l J Jx W hW _ _ hY h0 => by
  have hc' : Boxed W Bs 243 sv := (hW.block Bs hc.lt).trans hc
  have hbw := hb0.trans (hW.mono hn₀)
  subst hW0
  rcases hI with ⟨rfl, rfl⟩ | ⟨b, off, cap, rfl, hb, h1, h2, hcs⟩
  · exact (down1_nil_in F n hf hro l Bs J W hc' h0).mono fun e W' ⟨he, hj⟩ => ⟨he, .inl ⟨_, rfl, hj⟩⟩
  · exact down1_in F n hf hro hn l Bs _ b off cap ws hlen hb J Jx hY W hc' (fun j hj => (hbw.cell (p := ⟨b, off + j, none⟩) hb).trans (hcs j hj)) h0
end Go.Proofs.YtbeojahilbglcaaGreatDoor
namespace Lum
open Go Go.RowKit Go.Shelf
/-- The slice (p, n, c) holds the words of m. -/
def MagAt (W : World) (p : Option Addr) (n c : Nat) (m : Nat) : Prop := NatsAt .u64 W (.slice p n c) (magL m) ∧ n = (magL m).length
theorem MagAt.below {W W' : World} {p : Option Addr} {n c m : Nat} (h : MagAt W p n c m) (hb : Below W.heap.size W W') : MagAt W' p n c m := ⟨h.1.below hb, h.2⟩
theorem MagAt.nil (W : World) : MagAt W none 0 0 0 := ⟨.inl ⟨rfl, magL_zero⟩, by rw [magL_zero]; rfl⟩
theorem NatsAt.len {k : IntKind} {W : World} {p : Option Addr} {n c : Nat} {ws : List Nat} (h : NatsAt k W (.slice p n c) ws) : n = ws.length ∧ n ≤ c := by
  rcases h with ⟨h1, h2⟩ | ⟨b, o, c', h1, h2, h3, h4, h5⟩
  · injection h1 with h6 h7 h8
    subst h2; subst h7; subst h8; exact ⟨rfl, Nat.le_refl _⟩
  · injection h1 with h6 h7 h8
    subst h7; subst h8; exact ⟨rfl, h3⟩
theorem NatsAt.take {k : IntKind} {W : World} {p : Option Addr} {n c : Nat} {ws : List Nat} (h : NatsAt k W (.slice p n c) ws) (i : Nat) (hi : i ≤ n) : NatsAt k W (.slice p i c) (ws.take i) := by
  have hl := h.len.1
  rcases h with ⟨h1, h2⟩ | ⟨b, o, c', h1, h2, h3, h4, h5⟩
  · injection h1 with h6 h7 h8
    subst h2; subst h7; subst h6; subst h8
    obtain rfl : i = 0 := by omega
    exact .inl ⟨rfl, rfl⟩
  · injection h1 with h6 h7 h8
    subst h6; subst h8
    refine .inr ⟨b, o, c, ?_, h2, ?_, h4, ?_⟩
    · rw [List.length_take, Nat.min_eq_left (by omega)]
    · rw [List.length_take]; omega
    · intro j hj
      rw [List.length_take] at hj
      rw [h5 j (by omega), List.getElem?_take, if_pos (by omega)]
theorem wAt_getD (ws : List Nat) (i : Fin ws.length) : wAt ws i = ws.getD i.1 0 := by unfold wAt; rw [List.getD_eq_getElem?_getD]
theorem mem_dnF {n k : Nat} (hk : k ≤ n) (i : Fin n) : i ∈ dnF n k ↔ n - k ≤ i.1 := by
  unfold dnF
  rw [List.mem_take_iff_getElem]
  constructor
  · rintro ⟨j, hj, e⟩
    simp [List.getElem_reverse] at e hj
    rw [← e]; simp; omega
  · intro h
    refine ⟨n - 1 - i.1, by simp; omega, ?_⟩
    simp [List.getElem_reverse]
    apply Fin.ext; simp; omega
end Lum
namespace Go.Proofs.YtbeojahilbglcaaGreatDoor
open Go.RowKit Go.Shelf Lum
attribute [local go_sem] Oper.semAt_some

set_option maxRecDepth 100000 in
set_option maxHeartbeats 2000000 in
theorem cut_more (p : Option Addr) (c : Nat) (ws : List Nat) (w : World) (hI : NatsAt .u64 w (.slice p ws.length c) ws) (hw : ∀ d ∈ ws, d < B9) (hlen : ws.length ≤ 1000000000) :
    Calls Tryz.prog 228 #[.slice p ws.length c] w fun e W' => ∃ p' n' c', e = .returned (.slice p' n' c') ∧ MagAt W' p' n' c' (mv B9 ws) ∧ Below w.heap.size w W' ∧ (p' = p ∨ p' = none) := by
  have HI := Lib.hid hI; clear hI
  have HW := Lib.hid hw; clear hw
  refine (callsIn_wide (n := 5)).1 ?_
  refine callsIn_of_wp_marks Tryz.func228 rfl trivial ?_ rfl
  simp only [Tryz.ntmps228, List.size_toArray, List.length_cons, List.length_nil, Nat.reduceAdd, Nat.reduceSub, Array.replicate_succ, Array.replicate_zero, List.push_toArray, List.append_toArray, List.nil_append, List.cons_append]
  gi_wp2_with (refine ⟨trivial, ?_⟩; gi_at_call 232; refine (down_in Fence.wide 4 trivial rfl _ _ _ _).mono ?_; rintro e w' ⟨rfl, rfl⟩)
  have cM := Boxed.new w 243 (.slice p ws.length c)
  have cR := Boxed.new (w.alloc (.cells #[.slice p ws.length c] 243)) 243 (.slice none 0 0)
  have cN := Boxed.new ((w.alloc (.cells #[.slice p ws.length c] 243)).alloc (.cells #[.slice none 0 0] 243)) 243 (.slice p ws.length c)
  rw [World.size_alloc] at cR cN
  rw [World.size_alloc] at cN
  have hB0 : Below w.heap.size w (((w.alloc (.cells #[.slice p ws.length c] 243)).alloc (.cells #[.slice none 0 0] 243)).alloc (.cells #[.slice p ws.length c] 243)) := (((Below.refl _ w).alloc (Nat.le_refl _) _).alloc (by simp) _).alloc (by simp; omega) _
  refine wpIn_rangeFunc_ownG (n := 5) rfl (by omega) (Kp := KeepB w.heap.size (w.heap.size + 1 + 1)) (gf := 254) (lb := #[.pointer (some ⟨w.heap.size + 1 + 1, 0, none⟩)]) rfl trivial (enters_of Tryz.func254 (by kernel_rfl) rfl)
    (down_stops Fence.wide 4 trivial rfl (by omega) (w.heap.size + 1 + 1) w.heap.size _ ws hlen _ (by simp; omega) cN w HI.out rfl hB0) KeepB.t (KeepB.b (by simp; omega) (by simp)) (Below.refl _ _) (fun _ => rfl)
    (fun pre W => ((∀ i ∈ pre, wAt ws i = 0) ∧ Boxed W w.heap.size 243 (.slice p ws.length c) ∧ Boxed W (w.heap.size + 1) 243 (.slice none 0 0)) ∧ Below w.heap.size w W)
    (fun cd pre W => (cd = .ret ∧ ∃ ini last, pre = ini ++ [last] ∧ (∀ i ∈ ini, wAt ws i = 0) ∧ wAt ws last ≠ 0 ∧ Boxed W (w.heap.size + 1) 243 (.slice p (last.1 + 1) c)) ∧ Below w.heap.size w W)
    (OwnFrom.and (Own.from (fun s A B row hs hg hr => ⟨hs.1, boxed_own _ _ (fun _ : Unit => _) () A B row hs.2.1 hg hr, boxed_own _ _ (fun _ : Unit => _) () A B row hs.2.2 hg hr⟩) _) (ownFrom_below (Nat.le_refl _) (by simp; omega)))
    (fun cd => OwnFrom.and (Own.from (fun s A B row hs hg hr => by obtain ⟨hc, ini, last, e1, e2, e3, e4⟩ := hs; exact ⟨hc, ini, last, e1, e2, e3, boxed_own _ _ (fun _ : Unit => _) () A B row e4 hg hr⟩) _) (ownFrom_below (Nat.le_refl _) (by simp; omega)))
    ⟨⟨by simp, (cM.alloc _).alloc _, cR.alloc _⟩, hB0⟩
    (fun x => { tmps := #[.slice p ws.length c, .pointer (some ⟨w.heap.size, 0, none⟩), .pointer (some ⟨w.heap.size + 1, 0, none⟩), .int .i64 (x.1 : Int), .int .u64 (wAt ws x : Int), .slice p ws.length c, .func (.func 254) #[] #[.pointer (some ⟨w.heap.size + 1 + 1, 0, none⟩)], .int .i64 (x.1 : Int), .int .u64 (wAt ws x : Int), undef, undef, undef, undef, undef, undef], defers := [] }) ?assign ?body ?done ?stop
  case assign =>
    intro l x W K hK
    gi_wp2
    exact hK
  case body =>
    rintro l pre x W ⟨⟨hp, bM, bR⟩, hB⟩ _
    have hMc := bM.cell
    have hRc := bR.cell
    have hRf := bR.frozen
    have hx := x.2
    have hcap := HI.out.len.2
    obtain ⟨b, o, rfl⟩ : ∃ b o, p = some ⟨b, o, none⟩ := HI.out.some (by omega)
    have HP := Lib.hid hp; clear hp
    by_cases h0 : wAt ws x = 0
    · have H0 := Lib.hid h0
      have h0' : ((wAt ws x : Int) != 0) = false := by simp [h0]
      clear h0
      gi_wp2
      exact ⟨KeepsFrom.refl _ _, KeepB.refl _ _ _, ⟨fun i hi => (List.mem_append.1 hi).elim (HP.out i) (fun e => by simp at e; subst e; exact H0.out), bM, bR⟩, hB⟩
    · have H0 := Lib.hid h0
      have h0' : ((wAt ws x : Int) != 0) = true := by simpa using h0
      clear h0
      gi_wp2
      exact ⟨(KeepsOthers.setCell _ _ _).from _, ⟨rfl, pre, x, rfl, HP.out, H0.out, bR.set _⟩, hB.setCell (p := ⟨w.heap.size + 1, 0, none⟩) (by simp) _⟩
  case done =>
    rintro D ys W hD rfl ⟨⟨hne, bM, bR⟩, hB⟩ hK
    have hcr := bR.cell
    have hfr := bR.frozen
    have HN := Lib.hid hne; clear hne
    gi_wp2
    have hK' := (KeepsOthers.setCell W ⟨w.heap.size + 1, 0, none⟩ (.slice none 0 0)).same D _ hK rfl
    refine ⟨by simp, .inl ⟨_, _, rfl, run_takeDeferred hK', ?_⟩⟩
    have hc5 := cell_kept (bR.set (.slice none 0 0)).cell (grownBy_putObj' _ D (.deferred none)) (fun r e => by cases e; exact ⟨_, hK', rfl⟩)
    refine ⟨.slice none 0 0, ?_, none, 0, 0, rfl, ?_, (hB.setCell (p := ⟨w.heap.size + 1, 0, none⟩) (by simp) _).trans (belowK_b (w := w) (Nat.le_refl _) _ D _ _ (by simp at hD; omega) hK' rfl rfl), .inr rfl⟩
    · simp [results, Tryz.f228, go_sem, hc5]
    · have : mv B9 ws = 0 := by
        have h := cut_at ws HW.out 0 (Nat.zero_le _) (fun i _ hi => by
          have := HN.out ⟨i, hi⟩ ((mem_dnF (Nat.le_refl _) _).2 (by omega)); rwa [wAt_getD] at this) (.inl rfl)
        rw [← mv_magL (mv B9 ws), h]; rfl
      rw [this]; exact MagAt.nil _
  case stop =>
    rintro D cd pre W hD ⟨k, hk, rfl⟩ ⟨⟨rfl, ini, last, e1, e2, e3, bR⟩, hB⟩ hK
    have hcr := bR.cell
    have HE1 := Lib.hid e1
    have HE2 := Lib.hid e2
    have HE3 := Lib.hid e3
    clear e1 e2 e3
    gi_wp2
    refine ⟨by simp, .inl ⟨_, _, rfl, run_takeDeferred hK, ?_⟩⟩
    have hc5 := cell_kept hcr (grownBy_putObj' _ D (.deferred none)) (fun r e => by cases e; exact ⟨_, hK, rfl⟩)
    have hBW := hB.trans (belowK_b (w := w) (Nat.le_refl _) W D _ (.deferred none) (by simp at hD; omega) hK rfl rfl)
    refine ⟨.slice p (last.1 + 1) c, ?_, p, last.1 + 1, c, rfl, ?_, hBW, .inl rfl⟩
    · simp [results, Tryz.f228, go_sem, hc5]
    · obtain ⟨k', rfl⟩ : ∃ k', k = k' + 1 := by
        cases k with
        | zero => have := HE1.out; simp [dnF] at this
        | succ k' => exact ⟨k', rfl⟩
      have e1 := HE1.out
      rw [dnF_succ _ _ (by omega)] at e1
      obtain ⟨rfl, e5⟩ := List.append_inj' e1 rfl
      have hlast : last = ⟨ws.length - 1 - k', by omega⟩ := by simpa using e5.symm
      have hl1 : last.1 = ws.length - 1 - k' := by rw [hlast]
      have hcut := cut_at ws HW.out (last.1 + 1) (by omega) (fun i h1 h2 => by
        have := HE2.out ⟨i, h2⟩ ((mem_dnF (by omega) _).2 (by simp; omega)); rwa [wAt_getD] at this)
        (.inr (by have := HE3.out; rw [wAt_getD] at this; simpa using this))
      refine ⟨?_, ?_⟩
      · rw [hcut]; exact (HI.out.below hBW).take _ (by omega)
      · rw [hcut, List.length_take]; omega
theorem cut_any (p : Option Addr) (c : Nat) (ws : List Nat) (w : World) (hI : NatsAt .u64 w (.slice p ws.length c) ws) (hw : ∀ d ∈ ws, d < B9) (hlen : ws.length ≤ 1000000000) :
    Calls Tryz.prog 228 #[.slice p ws.length c] w fun e W' => ∃ p' n' c', e = .returned (.slice p' n' c') ∧ MagAt W' p' n' c' (mv B9 ws) ∧ Below w.heap.size w W' :=
  (cut_more p c ws w hI hw hlen).mono fun e W' ⟨p', n', c', h1, h2, h3, _⟩ => ⟨p', n', c', h1, h2, h3⟩
end Go.Proofs.YtbeojahilbglcaaGreatDoor
