/-
  slices.All at ints, as a range walks it. Effects: run and Runs of the program.
-/
import Derived.Test.YtbamcfhmkohbmaaGreatDoorWv1
import Derived.Test.YtbamcfhmkohbmaaGreatDoorYa
import Derived.Test.YtbamcfhmkohbmaaGreatDoorYx
import Derived.Test.YtbamcfhmkohbmaaGreatDoorWv4
set_option linter.unusedVariables false
set_option linter.unusedSimpArgs false
namespace Go.Proofs.YtbamcfhmkohbmaaGreatDoor
open Go.RowKit Go.Shelf Lum
attribute [local go_sem] Oper.semAt_some

set_option maxRecDepth 100000 in
set_option maxHeartbeats 2000000 in
theorem all1_in (F : Fence) (n : Nat) (hf : F.fn 213) (hro : F.round = none) (hn : 1 ≤ n) (l Bs n₀ b off cap : Nat) (ps : List Int) (hlen : ps.length ≤ 1000000000) (hb : b < n₀) (J Jx : List (Fin ps.length) → World → Prop)
    (hY : ∀ pre x W, J pre W → pre.length < ps.length → YieldAt F (n - 1) Tryz.prog l #[.int .i64 (x.1 : Int), .int .i64 (inI ps x.1)] W fun e W' =>
      (e = .returned (.bool true) ∧ J (pre ++ [x]) W' ∧ KeepB n₀ Bs W W') ∨ (e = .returned (.bool false) ∧ Jx (pre ++ [x]) W'))
    (W : World) (hBs : Boxed W Bs 47 (.slice (some ⟨b, off, none⟩) ps.length cap))
    (hc : ∀ j, j < ps.length → W.cell? ⟨b, off + j, none⟩ = some (.int .i64 (inI ps j))) (h0 : J [] W) :
    CallsIn F n Tryz.prog 213 #[.func (.yield l) #[] #[], .pointer (some ⟨Bs, 0, none⟩)] W fun e W' => (∃ v, e = .returned v) ∧
      ((∃ ys, ys = upF ps.length ps.length ∧ J ys W') ∨ (∃ pre, (∃ k, k ≤ ps.length ∧ pre = upF ps.length k) ∧ Jx pre W')) := by
  refine callsIn_of_wp Tryz.func213 rfl hf ?_ hro
  simp only [Tryz.ntmps213, List.size_toArray, List.length_cons, List.length_nil, Nat.reduceAdd, Nat.reduceSub, Array.replicate_succ, Array.replicate_zero, List.push_toArray, List.append_toArray, List.nil_append, List.cons_append]
  have hBc := hBs.cell
  gi_wp2
  gi_loopw [7] (fun i wr => ∃ k r : Nat, Hid (k + r = ps.length) ∧ i = .int .i64 (k : Int) ∧ J (upF ps.length k) wr ∧ KeepB n₀ Bs W wr)
    (fun i _ => ps.length - (intOf i).toNat)
  case atStart => exact ⟨0, ps.length, Lib.hid (by omega), rfl, by rw [upF_zero]; exact h0, KeepB.refl _ _ _⟩
  case round =>
    obtain ⟨k, r, hk, rfl, hJs, hnx⟩ := hrel
    cases r with
    | zero =>
      have hlt : ¬ ((k : Int) < (ps.length : Int)) := by have := hk.out; omega
      gi_wp2
      go_end0
      have hkl : k = ps.length := hk.out
      rw [hkl] at hJs
      first | exact ⟨⟨_, rfl⟩, .inl ⟨_, rfl, hJs⟩⟩ | exact ⟨⟨_, rfl⟩, .inl hJs⟩
    | succ m =>
      have hm : k < ps.length := by have := hk.out; omega
      have hlt : (k : Int) < (ps.length : Int) := by omega
      have hk0 : (0 : Int) ≤ (k : Int) := by omega
      have d1 := (hnx.1.cell (p := ⟨b, off + k, none⟩) hb).trans (hc k hm)
      have hun : IntKind.i64.wrap ((k : Int) + 1) = (k : Int) + 1 := IntWalk.i64_in _ (by omega)
      have hsn := Lib.hid (upF_succ ps.length k hm)
      obtain ⟨fn, tmps, assign, body, hy, hR⟩ := hY _ ⟨k, hm⟩ wr hJs (by rw [upF_length _ _ (by omega)]; exact hm)
      dsimp only at hy
      gi_wp2
      refine hR.mono ?_
      rintro e W3 (⟨rfl, hJ3, hk3⟩ | ⟨rfl, hJx3⟩)
      · gi_wp2
        go_roundw
        case rel => exact ⟨k + 1, m, Lib.hid (by have := hk.out; omega), by first | rfl | simp, by rw [hsn.out]; exact hJ3, hnx.t hk3⟩
        case measure => first | (simp [intOf]; done) | (simp [intOf]; omega)
      · gi_wp2
        refine bodyPost_ret (results_none rfl _ _ _) rfl ?_
        exact ⟨⟨_, rfl⟩, .inr ⟨_, ⟨k + 1, by omega, hsn.out.symm⟩, hJx3⟩⟩

set_option maxHeartbeats 1000000 in
theorem all_in (F : Fence) (n : Nat) (hf : F.fn 177) (hro : F.round = none) (a : Option Addr) (len cap : Nat) (w : World) :
    CallsIn F n Tryz.prog 177 #[.slice a len cap] w fun e w' => e = .returned (.func (.func 213) #[] #[.pointer (some ⟨w.heap.size, 0, none⟩)]) ∧ w' = w.alloc (.cells #[.slice a len cap] 47) := by
  refine callsIn_of_wp Tryz.func177 rfl hf ?_ hro
  simp only [Tryz.ntmps177, List.size_toArray, List.length_cons, List.length_nil, Nat.reduceAdd, Nat.reduceSub, Array.replicate_succ, Array.replicate_zero, List.push_toArray, List.append_toArray, List.nil_append, List.cons_append]
  gi_wp2
  go_ret
  exact ⟨rfl, rfl⟩

/-- What the loop over a slice's places and elements is handed: all, or the first k of them. -/
theorem all_stops (F : Fence) (n : Nat) (hf : F.fn 213) (hro : F.round = none) (hn : 1 ≤ n) (Bs n₀ : Nat) (sv : Value) (ps : List Int) (hlen : ps.length ≤ 1000000000) (hne : ps ≠ []) (w : World) (hn₀ : n₀ ≤ w.heap.size)
    (hc : Boxed w Bs 47 sv) (W0 : World) (hI : IntsAt W0 sv ps) (hW0 : W0.heap.size = n₀) (hb0 : Below n₀ W0 w) :
    SeqStopsK F n Tryz.prog 213 #[.pointer (some ⟨Bs, 0, none⟩)] (fun x : Fin ps.length => #[.int .i64 (x.1 : Int), .int .i64 (inI ps x.1)]) (KeepB n₀ Bs) (fun ys => ys = upF ps.length ps.length)
      (fun pre => ∃ k, k ≤ ps.length ∧ pre = upF ps.length k) ps.length w := fun l J Jx W hW _ _ hY h0 => by
  have hc' : Boxed W Bs 47 sv := (hW.block Bs hc.lt).trans hc
  have hbw := hb0.trans (hW.mono hn₀)
  subst hW0
  obtain ⟨p, cap, rfl, h⟩ := hI
  obtain ⟨b, off, rfl, hb, hcs⟩ := h hne
  exact all1_in F n hf hro hn l Bs _ b off cap ps hlen hb J Jx hY W hc' (fun j hj => (hbw.cell (p := ⟨b, off + j, none⟩) hb).trans (hcs j hj)) h0

/-- members(x): the slice of the channels' places and elements. -/
theorem members_in (F : Fence) (n : Nat) (hf : F.fn 121) (hf2 : F.fn 177) (hro : F.round = none) (hn : 1 ≤ n) (ef ce cr cd cl : Int) (a : Option Addr) (len cap : Nat) (w : World) :
    CallsIn F n Tryz.prog 121 #[.agg #[.int .i64 ef, .slice a len cap, .int .i64 ce, .int .i64 cr, .int .i64 cd, .int .i64 cl]] w fun e w' => ∃ B, e = .returned (.func (.func 213) #[] #[.pointer (some ⟨B, 0, none⟩)]) ∧ w.heap.size ≤ B ∧ Boxed w' B 47 (.slice a len cap) ∧ Below w.heap.size w w' := by
  refine callsIn_of_wp Tryz.func121 rfl hf ?_ hro
  simp only [Tryz.ntmps121, List.size_toArray, List.length_cons, List.length_nil, Nat.reduceAdd, Nat.reduceSub, Array.replicate_succ, Array.replicate_zero, List.push_toArray, List.append_toArray, List.nil_append, List.cons_append]
  gi_wp2_with (gi_at_call 177; refine (all_in F (n - 1) hf2 hro _ _ _ _).mono ?_; rintro e w' ⟨rfl, rfl⟩)
  go_ret
  exact ⟨_, rfl, by simp, by simpa using Boxed.new (w.alloc (.cells #[.int .i64 ef, .slice a len cap, .int .i64 ce, .int .i64 cr, .int .i64 cd, .int .i64 cl] 58)) 47 (.slice a len cap), ((Below.refl w.heap.size w).alloc (Nat.le_refl _) _).alloc (by simp) _⟩
end Go.Proofs.YtbamcfhmkohbmaaGreatDoor
namespace Lum
open Go Go.RowKit Go.Shelf
open Go.Lib (decDigits itoa)
theorem IntsAt.len {W : World} {p : Option Addr} {n c : Nat} {l : List Int} (h : IntsAt W (.slice p n c) l) : n = l.length := by
  obtain ⟨p', c', e, -⟩ := h
  injection e
theorem IntsAt.take {W : World} {p : Option Addr} {n c : Nat} {l : List Int} (h : IntsAt W (.slice p n c) l) {i : Nat} (hi : i ≤ l.length) : IntsAt W (.slice p i c) (l.take i) := by
  obtain ⟨p', c', e, h2⟩ := h
  injection e with e1 e2 e3
  subst e1 e3
  have hl : (l.take i).length = i := by rw [List.length_take]; omega
  refine ⟨p, c, by rw [hl], fun hn => ?_⟩
  obtain ⟨b, o, hp, hb, hc⟩ := h2 (fun e => hn (by rw [e]; simp))
  refine ⟨b, o, hp, hb, fun j hj => ?_⟩
  rw [hl] at hj
  have := hc j (by omega)
  rw [this]
  unfold inI
  rw [List.getElem?_take, if_pos hj]
/-- What is said of the channel at a place. -/
def chX (l : List Int) (i : Nat) : Int := if inI l i < 1 ∨ 999 < inI l i then 2 else if (l.take i).contains (inI l i) = true then 7 else 0
theorem chX_out {l : List Int} {i : Nat} (h : inI l i < 1 ∨ 999 < inI l i) : chX l i = 2 := by unfold chX; rw [if_pos h]
theorem chX_two {l : List Int} {i : Nat} (h : ¬ (inI l i < 1 ∨ 999 < inI l i)) (h2 : (l.take i).contains (inI l i) = true) : chX l i = 7 := by unfold chX; rw [if_neg h, if_pos h2]
theorem chX_ok {l : List Int} {i : Nat} (h : ¬ (inI l i < 1 ∨ 999 < inI l i)) (h2 : (l.take i).contains (inI l i) = false) : chX l i = 0 := by unfold chX; rw [if_neg h, if_neg (by rw [h2]; decide)]
theorem chF_eq (l : List Int) (n i : Nat) : chF l (n + 1) i = if chX l i ≠ 0 then chX l i else chF l n (i + 1) := by
  by_cases h : inI l i < 1 ∨ 999 < inI l i
  · rw [chX_out h, chF_out h, if_pos (by decide)]
  · by_cases h2 : (l.take i).contains (inI l i) = true
    · rw [chX_two h h2, chF_two h h2, if_pos (by decide)]
    · have h3 : (l.take i).contains (inI l i) = false := by simpa using h2
      rw [chX_ok h h3, chF_go h h3, if_neg (by simp)]
theorem chF_all {l : List Int} : ∀ (n i : Nat), (∀ j, i ≤ j → j < i + n → chX l j = 0) → chF l n i = 0 := by
  intro n
  induction n with
  | zero => intro i _; rfl
  | succ n ih => intro i h; rw [chF_eq, if_neg (by rw [h i (by omega) (by omega)]; simp)]; exact ih (i + 1) fun j h1 h2 => h j (by omega) (by omega)
theorem chF_first {l : List Int} {k : Nat} : ∀ (n i : Nat), i ≤ k → k < i + n → (∀ j, i ≤ j → j < k → chX l j = 0) → chX l k ≠ 0 → chF l n i = chX l k := by
  intro n
  induction n with
  | zero => intro i h1 h2; omega
  | succ n ih =>
    intro i h1 h2 h3 h4
    by_cases e : i = k
    · subst e; rw [chF_eq, if_pos h4]
    · rw [chF_eq, if_neg (by rw [h3 i (by omega) (by omega)]; simp)]
      exact ih (i + 1) (by omega) (by omega) (fun j a b => h3 j (by omega) b) h4
theorem upF_memk {n k : Nat} {i : Fin n} (h : i.1 < k) : i ∈ upF n k := by
  have : i = (List.finRange n)[i.1]'(by simp) := by simp
  unfold upF
  rw [List.mem_take_iff_getElem]
  exact ⟨i.1, by simp; omega, by simp⟩
end Lum
namespace Go.Proofs.YtbamcfhmkohbmaaGreatDoor
open Go.RowKit Go.Shelf Lum
open Go.Lib (decDigits itoa)
attribute [local go_sem] Oper.semAt_some bs_get bs_extract_end bs_extract_from bs_extract bs_append

set_option maxRecDepth 100000 in
set_option maxHeartbeats 8000000 in
theorem own_erun0 (ef ce cr cd cl : Int) (cs : List Int) (p : Option Addr) (c : Nat) (w : World) (hv : IntsAt w (.slice p cs.length c) cs) (hcap : cs.length ≤ c) :
    Calls Tryz.prog 92 #[.agg #[.int .i64 ef, .slice p cs.length c, .int .i64 ce, .int .i64 cr, .int .i64 cd, .int .i64 cl]] w fun e w' => e = .returned (.int .i64 (rnE ⟨ef, cs, ce, cr, cd, cl⟩)) ∧ Below w.heap.size w w' := by
  have hb0 := ((Below.refl w.heap.size w).alloc (Nat.le_refl _) (.cells #[.int .i64 ef, .slice p cs.length c, .int .i64 ce, .int .i64 cr, .int .i64 cd, .int .i64 cl] 58)).alloc (by simp) (.cells #[.int .i64 0] 26)
  have hk0 := (Blk.new w 58 #[.int .i64 ef, .slice p cs.length c, .int .i64 ce, .int .i64 cr, .int .i64 cd, .int .i64 cl]).alloc (.cells #[.int .i64 0] 26)
  have he0 := Blk.new (w.alloc (.cells #[.int .i64 ef, .slice p cs.length c, .int .i64 ce, .int .i64 cr, .int .i64 cd, .int .i64 cl] 58)) 26 #[.int .i64 0]
  rw [World.size_alloc] at he0
  have HB := Lib.hid hb0; have HK := Lib.hid hk0; have HE := Lib.hid he0; clear hk0 he0
  obtain ⟨k0, k1, k2, k3, k4, k5, kf0, kf1, kf2, kf3, kf4, kf5⟩ := HK.out.c6
  obtain ⟨e0, ef0⟩ := HE.out.c1
  have HB0 := HB
  by_cases o0 : ef < 1
  · rw [rnE_ef (x := ⟨ef, cs, ce, cr, cd, cl⟩) (by dsimp only; omega)]
    clear hv
    go_enter Tryz.func92, Tryz.ntmps92
    go_wp2_with fail
    refine bodyPost_ret_by (v := .int .i64 (2)) (by simp [results, Tryz.f92, go_sem, e0, ef0]) rfl ⟨rfl, by first | exact HB.out.setCell (p := ⟨w.heap.size + 1, 0, none⟩) (by simp) _ | exact ((Below.refl w.heap.size w).alloc (Nat.le_refl _) _).alloc (by simp) _⟩
  by_cases o1 : 1048576 < ef
  · rw [rnE_ef (x := ⟨ef, cs, ce, cr, cd, cl⟩) (by dsimp only; omega)]
    clear hv
    go_enter Tryz.func92, Tryz.ntmps92
    go_wp2_with fail
    refine bodyPost_ret_by (v := .int .i64 (2)) (by simp [results, Tryz.f92, go_sem, e0, ef0]) rfl ⟨rfl, by first | exact HB.out.setCell (p := ⟨w.heap.size + 1, 0, none⟩) (by simp) _ | exact ((Below.refl w.heap.size w).alloc (Nat.le_refl _) _).alloc (by simp) _⟩
  have ho : ¬ (ef < 1 ∨ 1048576 < ef) := by omega
  by_cases hz : cs.length = 0
  · rw [rnE_ch (x := ⟨ef, cs, ce, cr, cd, cl⟩) ho (by show ¬ chE cs = 0; rw [chE_no hz]; decide)]
    rw [show chE (Rnx.cs ⟨ef, cs, ce, cr, cd, cl⟩) = 12 from chE_no hz]
    rw [hz] at *
    clear hv ho
    go_enter Tryz.func92, Tryz.ntmps92
    go_wp2_with fail
    refine bodyPost_ret_by (v := .int .i64 (12)) (by simp [results, Tryz.f92, go_sem, e0, ef0]) rfl ⟨rfl, by first | exact HB.out.setCell (p := ⟨w.heap.size + 1, 0, none⟩) (by simp) _ | exact ((Below.refl w.heap.size w).alloc (Nat.le_refl _) _).alloc (by simp) _⟩
  · by_cases hy : 256 < cs.length
    · rw [rnE_ch (x := ⟨ef, cs, ce, cr, cd, cl⟩) ho (by show ¬ chE cs = 0; rw [chE_many hy]; decide)]
      rw [show chE (Rnx.cs ⟨ef, cs, ce, cr, cd, cl⟩) = 5 from chE_many hy]
      have hz1 : ((cs.length : Int) == 0) = false := by rw [beq_eq_false_iff_ne]; omega
      have hz2 : (256 : Int) < (cs.length : Int) := by omega
      clear hv ho
      go_enter Tryz.func92, Tryz.ntmps92
      go_wp2_with fail
      refine bodyPost_ret_by (v := .int .i64 (5)) (by simp [results, Tryz.f92, go_sem, e0, ef0]) rfl ⟨rfl, by first | exact HB.out.setCell (p := ⟨w.heap.size + 1, 0, none⟩) (by simp) _ | exact ((Below.refl w.heap.size w).alloc (Nat.le_refl _) _).alloc (by simp) _⟩
    · have hne : cs ≠ [] := fun h => by subst h; exact hz rfl
      have h256 : cs.length ≤ 256 := by omega
      have hz1 : ((cs.length : Int) == 0) = false := by rw [beq_eq_false_iff_ne]; omega
      have hz2 : ¬ (256 : Int) < (cs.length : Int) := by omega
      have hcc := fun W => own_clk_check ce cr cd cl W
      have HI := Lib.hid hv; clear hv
      obtain ⟨p0, c0, epc, hp2⟩ := HI.out
      injection epc with ep1 ep2 ep3
      subst ep1 ep3
      obtain ⟨b, o, rfl, -, -⟩ := hp2 hne
      clear hp2 ep2
      have HCC := Lib.hid hcc; clear hcc
      refine (callsIn_wide (n := 5)).1 ?_
      refine callsIn_of_wp_marks Tryz.func92 rfl trivial ?_ rfl
      simp only [Tryz.ntmps92, List.size_toArray, List.length_cons, List.length_nil, Nat.reduceAdd, Nat.reduceSub, Array.replicate_succ, Array.replicate_zero, List.push_toArray, List.append_toArray, List.nil_append, List.cons_append]
      gi_wp2_with (refine ⟨trivial, ?_⟩; gi_at_call 121; refine (members_in Fence.wide 4 trivial trivial rfl (by omega) _ _ _ _ _ _ _ _ _).mono ?_; rintro e w' ⟨B, rfl, hle, hbox, hb⟩; have hs0 := HE.out.lt; replace HK := Lib.hid (HK.out.keep hb); replace HE := Lib.hid (HE.out.keep hb); replace HB := Lib.hid (bch' HB.out hb); clear hb k0 kf0 k1 kf1 k2 kf2 k3 kf3 k4 kf4 k5 kf5 e0 ef0; obtain ⟨k0, k1, k2, k3, k4, k5, kf0, kf1, kf2, kf3, kf4, kf5⟩ := HK.out.c6; obtain ⟨e0, ef0⟩ := HE.out.c1)
      have hBlt := hbox.lt
      obtain ⟨W0, hW0⟩ : ∃ W0, W0 = w' := ⟨_, rfl⟩
      subst hW0
      have hBne : w.heap.size + 1 < B := by simp at hle; omega
      refine' wpIn_rangeFunc_ownG (n := 5) rfl (by omega) (Kp := KeepB w.heap.size B) (gf := 213) (lb := #[.pointer (some ⟨B, 0, none⟩)]) rfl trivial (enters_of Tryz.func213 (by kernel_rfl) rfl)
        (all_stops Fence.wide 4 trivial rfl (by omega) B w.heap.size _ cs (by omega) hne _ HB.out.size hbox w HI.out rfl HB.out) KeepB.t (KeepB.b HB.out.size hBlt) (Below.refl _ _) (fun _ => rfl)
        (fun pre W => ((∀ i ∈ pre, chX cs i.1 = 0) ∧ Blk W w.heap.size 58 #[.int .i64 ef, .slice (some ⟨b, o, none⟩) cs.length c, .int .i64 ce, .int .i64 cr, .int .i64 cd, .int .i64 cl] ∧ Blk W (w.heap.size + 1) 26 #[.int .i64 0]) ∧ Below w.heap.size w W ∧ W0.heap.size ≤ W.heap.size)
        (fun cd_ pre W => (cd_ = .ret ∧ ∃ ini last, pre = ini ++ [last] ∧ (∀ i ∈ ini, chX cs i.1 = 0) ∧ chX cs last.1 ≠ 0 ∧ Blk W (w.heap.size + 1) 26 #[.int .i64 (chX cs last.1)]) ∧ Below w.heap.size w W)
        (OwnFrom.and (Own.from (fun s A B row hs hg hr => ⟨hs.1, blk_own w.heap.size 58 (fun _ : Unit => _) () A B row hs.2.1 hg hr, blk_own (w.heap.size + 1) 26 (fun _ : Unit => _) () A B row hs.2.2 hg hr⟩) _) (OwnFrom.and (ownFrom_below (Nat.le_refl _) HB.out.size) ownFrom_size))
        (fun cd_ => OwnFrom.and (Own.from (fun s A B row hs hg hr => by obtain ⟨hc, ini, last, e1, e2, e3, e4⟩ := hs; exact ⟨hc, ini, last, e1, e2, e3, blk_own (w.heap.size + 1) 26 (fun _ : Unit => _) () A B row e4 hg hr⟩) _) (ownFrom_below (Nat.le_refl _) HB.out.size))
        ⟨⟨by simp, HK.out, HE.out⟩, HB.out, Nat.le_refl _⟩ _ ?assign ?body ?done ?stop
      case assign =>
        intro l' x W K hK
        gi_wp2
        exact hK
      case body =>
        rintro l' pre x W ⟨⟨hp, bK, bE⟩, hBW, hsz⟩ hlt'
        have hx := x.2
        have HP := Lib.hid hp; clear hp
        clear HK HE HB HCC k0 kf0 k1 kf1 k2 kf2 k3 kf3 k4 kf4 k5 kf5 e0 ef0
        have HK := Lib.hid bK; have HE := Lib.hid bE; clear bK bE
        obtain ⟨k0, k1, k2, k3, k4, k5, kf0, kf1, kf2, kf3, kf4, kf5⟩ := HK.out.c6
        obtain ⟨e0, ef0⟩ := HE.out.c1
        by_cases q0 : inI cs x.1 < 1
        · have he : chX cs x.1 = 2 := chX_out (by omega)
          have HX := Lib.hid he; clear he
          generalize inI cs x.1 = z at *
          gi_wp2
          exact ⟨(KeepsOthers.setCell _ _ _).from _, ⟨rfl, pre, x, rfl, HP.out, by rw [HX.out]; decide, by rw [HX.out]; simpa using HE.out.set_ 0 (.int .i64 2)⟩, hBW.setCell (p := ⟨w.heap.size + 1, 0, none⟩) (by simp) _⟩
        by_cases q1 : 999 < inI cs x.1
        · have he : chX cs x.1 = 2 := chX_out (by omega)
          have HX := Lib.hid he; clear he
          generalize inI cs x.1 = z at *
          gi_wp2
          exact ⟨(KeepsOthers.setCell _ _ _).from _, ⟨rfl, pre, x, rfl, HP.out, by rw [HX.out]; decide, by rw [HX.out]; simpa using HE.out.set_ 0 (.int .i64 2)⟩, hBW.setCell (p := ⟨w.heap.size + 1, 0, none⟩) (by simp) _⟩
        have hin : ¬ (inI cs x.1 < 1 ∨ 999 < inI cs x.1) := by omega
        have hxi : (x.1 : Int) ≤ (c : Int) := by omega
        have hx0 : (0 : Int) ≤ (x.1 : Int) := by omega
        have hct := fun W (h : IntsAt W (.slice (some ⟨b, o, none⟩) cs.length c) cs) => int_contains (inI cs x.1) (cs.take x.1) (.slice (some ⟨b, o, none⟩) x.1 c) W (h.take (by omega)) (by rw [List.length_take]; omega)
        cases hcv : (cs.take x.1).contains (inI cs x.1)
        · have HX := Lib.hid (chX_ok hin hcv)
          rw [hcv] at hct
          clear hcv hin
          have HCT := Lib.hid hct; clear hct
          generalize inI cs x.1 = z at *
          gi_wp2_with (refine ⟨trivial, ?_⟩; gi_at_call 158; with_reducible refine (CallsIn.inRound l' (callsIn_wide.2 (HCT.out _ (HI.out.below hBW)))).mono ?_; rintro e w' ⟨rfl, hb⟩; clear e0 ef0; obtain ⟨e2, e3⟩ := (HE.out.keep hb).c1)
          exact ⟨keepsFrom_below hb, (KeepB.refl _ _ W).below hb (by have := hBW.size; omega) (by omega), ⟨fun i hi => (List.mem_append.1 hi).elim (HP.out i) (fun e => by simp at e; subst e; exact HX.out), HK.out.keep hb, HE.out.keep hb⟩, bch' hBW hb, Nat.le_trans hsz hb.size⟩
        · have HX := Lib.hid (chX_two hin hcv)
          rw [hcv] at hct
          clear hcv hin
          have HCT := Lib.hid hct; clear hct
          generalize inI cs x.1 = z at *
          gi_wp2_with (refine ⟨trivial, ?_⟩; gi_at_call 158; with_reducible refine (CallsIn.inRound l' (callsIn_wide.2 (HCT.out _ (HI.out.below hBW)))).mono ?_; rintro e w' ⟨rfl, hb⟩; clear e0 ef0; obtain ⟨e2, e3⟩ := (HE.out.keep hb).c1)
          exact ⟨(keepsFrom_below hb).trans ((KeepsOthers.setCell _ _ _).from _), ⟨rfl, pre, x, rfl, HP.out, by rw [HX.out]; decide, by rw [HX.out]; simpa using (HE.out.keep hb).set_ 0 (.int .i64 7)⟩, (bch' hBW hb).setCell (p := ⟨w.heap.size + 1, 0, none⟩) (by simp) _⟩
      case done =>
        rintro D ys W hD rfl ⟨⟨hne2, bK, bE⟩, hBW, hsz⟩ hK
        have hch : chE cs = 0 := by rw [chE_few (by omega) (by omega)]; exact chF_all _ _ fun j _ hj => hne2 ⟨j, by omega⟩ upF_mem
        have HR : Hid (rnE ⟨ef, cs, ce, cr, cd, cl⟩ = ckE ce cr cd cl) := Lib.hid (rnE_ck ho hch)
        clear hne2 HK HE HB k0 kf0 k1 kf1 k2 kf2 k3 kf3 k4 kf4 k5 kf5 e0 ef0
        have HK := Lib.hid bK; have HE := Lib.hid bE; clear bK bE
        obtain ⟨k0, k1, k2, k3, k4, k5, kf0, kf1, kf2, kf3, kf4, kf5⟩ := HK.out.c6
        obtain ⟨e0, ef0⟩ := HE.out.c1
        obtain ⟨m, hm⟩ : ∃ m, m = ckE ce cr cd cl := ⟨_, rfl⟩
        have HM := Lib.hid hm
        have hcc2 := HCC.out
        rw [← hm] at hcc2
        clear hm HCC
        have HCC := Lib.hid hcc2; clear hcc2
        gi_wp2_with (refine ⟨trivial, ?_⟩; gi_at_call 159; refine (callsIn_wide.2 (HCC.out _)).mono ?_; rintro e w' ⟨rfl, hb⟩; clear e0 ef0; obtain ⟨e2, e3⟩ := (HE.out.keep hb).c1)
        have hKb := (hb.block D (by have := (Array.getElem?_eq_some_iff.1 hK).1; exact this)).trans hK
        have hK' := (KeepsOthers.setCell w' ⟨w.heap.size + 1, 0, none⟩ (.int .i64 m)).same D _ hKb rfl
        refine ⟨by simp, .inl ⟨_, _, rfl, run_takeDeferred hK', ?_⟩⟩
        have hc5 := cell_kept (Blk.boxed (show Blk _ _ 26 #[.int .i64 m] by simpa using (HE.out.keep hb).set_ 0 (.int .i64 m))).cell (grownBy_putObj' _ D (.deferred none)) (fun r e => by cases e; exact ⟨_, hK', rfl⟩)
        refine ⟨.int .i64 m, by simp [results, Tryz.f92, go_sem, hc5], by rw [HR.out, HM.out], ((bch' hBW hb).setCell (p := ⟨w.heap.size + 1, 0, none⟩) (by simp) _).trans (belowK_b (w := w) (Nat.le_refl _) _ D _ _ (by have := HB0.out.size; omega) hK' rfl rfl)⟩
      case stop =>
        rintro D cd_ pre W hD ⟨k, hk, rfl⟩ ⟨⟨rfl, ini, last, e1, e2, e3, bE⟩, hBW⟩ hK
        have hR : rnE ⟨ef, cs, ce, cr, cd, cl⟩ = chX cs last.1 := by
          have hll := congrArg List.length e1
          rw [upF_length _ _ hk, List.length_append] at hll
          simp at hll
          subst hll
          obtain ⟨a1, a2⟩ := upF_snoc e1.symm (by omega)
          have h3 : chE cs = chX cs last.1 := by
            rw [chE_few (by omega) (by omega)]
            refine chF_first _ _ (Nat.zero_le _) (by have := last.2; omega) (fun j _ hj => e2 ⟨j, by have := last.2; omega⟩ ?_) e3
            have h9 : (⟨j, by have := last.2; omega⟩ : Fin cs.length) ∈ upF cs.length ini.length := upF_memk (by show j < _; omega)
            rw [← a1] at h9
            exact h9
          rw [rnE_ch ho (by rw [h3]; exact e3), h3]
        have HR := Lib.hid hR; clear hR e1 e2 e3
        obtain ⟨m, hm⟩ : ∃ m, m = chX cs last.1 := ⟨_, rfl⟩
        rw [← hm] at bE
        have HM := Lib.hid hm; clear hm
        have r5 := Blk.boxed bE
        refine wpIn_ret ?_
        refine ⟨by simp, .inl ⟨_, _, rfl, run_takeDeferred hK, ?_⟩⟩
        have hc5 := cell_kept r5.cell (grownBy_putObj' _ D (.deferred none)) (fun r e => by cases e; exact ⟨_, hK, rfl⟩)
        refine ⟨.int .i64 m, by simp [results, Tryz.f92, go_sem, hc5], by rw [HR.out, HM.out], hBW.trans (belowK_b (w := w) (Nat.le_refl _) W D _ _ (by have := HB0.out.size; omega) hK rfl rfl)⟩

theorem own_erun (ef ce cr cd cl : Int) (cs : List Int) (p : Option Addr) (n c : Nat) (w : World) (hv : IntsAt w (.slice p n c) cs) (hcap : cs.length ≤ c) :
    Calls Tryz.prog 92 #[.agg #[.int .i64 ef, .slice p n c, .int .i64 ce, .int .i64 cr, .int .i64 cd, .int .i64 cl]] w fun e w' => e = .returned (.int .i64 (rnE ⟨ef, cs, ce, cr, cd, cl⟩)) ∧ Below w.heap.size w w' := by
  obtain rfl := hv.len
  exact own_erun0 ef ce cr cd cl cs p c w hv hcap

set_option maxRecDepth 100000 in
theorem own_eruns (l : List Rnx) (v : Value) (w : World) (hv : RunsAt w v l) :
    Calls Tryz.prog 39 #[v] w fun e w' => e = .returned (.int .i64 (ordE rnE (·.ef) l)) ∧ Below w.heap.size w w' := by
  obtain ⟨L, p, c, rfl, hL, hR, hH⟩ := hv
  have ho := own_ordN 92 97 L p c (fun x => rnE x.1) (fun x => x.1.ef) w hR (enters_of Tryz.func92 (by kernel_rfl) rfl) (enters_of Tryz.func97 (by kernel_rfl) rfl)
    (fun i hi W hb => own_erun _ _ _ _ _ _ _ _ _ W (IntsAt.below (hH _ (List.getElem_mem hi)).1 hb) (hH _ (List.getElem_mem hi)).2) (fun i hi W _ => own_eeffect _ _ _ _ _ _ _ _ W)
  rw [← ordE_map (fun x => x.1) rnE (fun y => y.ef) L, hL] at ho
  have HO := Lib.hid ho; clear ho hR hH hL
  generalize ordE rnE _ l = m at *
  have HB := Lib.hid (Below.refl w.heap.size w)
  go_enter Tryz.func39, Tryz.ntmps39
  go_wp2_with (with_reducible refine (HO.out.mono ?_); rintro e w' ⟨rfl, hb⟩; replace HB := Lib.hid hb; clear hb)
  go_ret
  exact ⟨rfl, HB.out⟩
end Go.Proofs.YtbamcfhmkohbmaaGreatDoor
