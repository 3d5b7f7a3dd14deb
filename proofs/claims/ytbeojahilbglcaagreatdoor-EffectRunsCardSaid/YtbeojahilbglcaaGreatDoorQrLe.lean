/-
  Reference: SameInts, SameRun, SameRuns at equal lists. EffectRuns: ref.Few, what is short. EffectRuns: the law. EffectRuns: slices as they come in.
-/
import Derived.Test.YtbeojahilbglcaaGreatDoorQrYs
import Derived.Laws.StructEq
import Derived.Test.YtbeojahilbglcaaGreatDoorQrYk
import Derived.Test.YtbeojahilbglcaaGreatDoorQrLr
import Derived.Test.YtbeojahilbglcaaGreatDoorQrYh
import Derived.SizedLaws
set_option linter.unusedVariables false
set_option linter.unusedSimpArgs false
namespace Go.Proofs.YtbeojahilbglcaaGreatDoor
open Go.RowKit Go.Shelf Lum
open Go.Lib (decDigits itoa)
attribute [local go_sem] bs_get bs_extract_end bs_extract_from bs_extract bs_append

set_option maxRecDepth 100000 in
set_option maxHeartbeats 1000000 in
theorem r15_sameints (l : List Int) (pa pb : Option Addr) (ca cb : Nat) (w : World) (ha : IntsAt w (.slice pa l.length ca) l) (hb : IntsAt w (.slice pb l.length cb) l) (hn : l.length ≤ 1000000) :
    Calls Tryz.prog 85 #[.slice pa l.length ca, .slice pb l.length cb] w fun e w' => e = .returned (.bool (true)) ∧ Below w.heap.size w w' := by
  have HA := Lib.hid ha; have HA2 := Lib.hid hb
  clear ha hb
  have HB := Lib.hid (Below.refl w.heap.size w)
  go_enter Tryz.func85, Tryz.ntmps85
  go_wp2_with fail
  go_loopw [5] (fun s5 wr => ∃ i : Nat, s5 = .int .i64 (i : Int) ∧ i ≤ l.length ∧ Hid (Below w.heap.size w wr)) (fun s5 _ => l.length - (intOf s5).toNat)
  case atStart => exact ⟨0, rfl, by omega, HB⟩
  case round =>
    clear HB
    obtain ⟨i, rfl, hil, HB⟩ := hrel
    by_cases hlt : i < l.length
    · have hlt1 : (i : Int) < (l.length : Int) := by omega
      have hi0 : (0 : Int) ≤ (i : Int) := by omega
      have hun : IntKind.i64.wrap ((i : Int) + 1) = (i : Int) + 1 := IntWalk.i64_in _ (by omega)
      obtain ⟨p9, c9, e9, hi9⟩ := HA.out
      injection e9 with e91 e92 e93
      subst e91 e93
      obtain ⟨ba, oa, rfl, hba, hCa⟩ := hi9 (fun e => by rw [e] at hlt; exact absurd hlt (Nat.not_lt_zero _))
      obtain ⟨p8, c8, e8, hi8⟩ := HA2.out
      injection e8 with e81 e82 e83
      subst e81 e83
      obtain ⟨bb, ob, rfl, hbb, hCb⟩ := hi8 (fun e => by rw [e] at hlt; exact absurd hlt (Nat.not_lt_zero _))
      have HXA := Lib.hid (hCa i hlt); have HXB := Lib.hid (hCb i hlt); have HBA := Lib.hid hba; have HBB := Lib.hid hbb
      clear hCa hCb hi9 hi8 e92 e82 hba hbb
      generalize inI l i = z at *
      go_upto_region 6 with fail
      have f1 := fun p : BelowOf _ => ((bch' HB.out p.h).cell (p := ⟨ba, oa + i, none⟩) HBA.out).trans HXA.out
      have f2 := fun p : BelowOf _ => ((bch' HB.out p.h).cell (p := ⟨bb, ob + i, none⟩) HBB.out).trans HXB.out
      have f3 := fun p : BelowOf _ => Nat.lt_of_lt_of_le HBA.out (bch' HB.out p.h).size
      have f4 := fun p : BelowOf _ => Nat.lt_of_lt_of_le HBB.out (bch' HB.out p.h).size
      refine wp_region_WQ (by kernel_rfl) (by kernel_rfl) ?_
      repeat (refine WQ.step (fun K hK => ?_); go_simp; first | (refine hK.out _ ?_; clear hK K) | (apply Exists.intro; refine ⟨fun _ => ?_, hK.out _ ?_⟩; (first | rfl); clear hK K))
      refine WQ.nil ?_
      intro _ hw'
      obtain ⟨⟨wq, hbq⟩, hw2⟩ := hw'
      subst hw2
      replace HB := Lib.hid (bch' HB.out hbq)
      clear f1 f2 f3 f4
      go_wp2_with fail
      go_roundw
      case rel => exact ⟨i + 1, by first | rfl | simp, by omega, HB⟩
      case measure => first | (simp [intOf]; done) | (simp [intOf]; omega)
    · have hlt1 : ¬ (i : Int) < (l.length : Int) := by omega
      go_wp2_with fail
      go_ret
      exact ⟨rfl, HB.out⟩

set_option maxRecDepth 100000 in
set_option maxHeartbeats 1000000 in
theorem r28_samerun (x : Rnx) (a b : Option Addr × Nat) (w : World) (ha : IntsAt w (.slice a.1 x.cs.length a.2) x.cs) (hb : IntsAt w (.slice b.1 x.cs.length b.2) x.cs) (hn : x.cs.length ≤ 1000000) :
    Calls Tryz.prog 39 #[.agg #[.int .i64 (x.ef), .slice a.1 x.cs.length a.2, .int .i64 (x.ce), .int .i64 (x.cr), .int .i64 (x.cd), .int .i64 (x.cl)], .agg #[.int .i64 (x.ef), .slice b.1 x.cs.length b.2, .int .i64 (x.ce), .int .i64 (x.cr), .int .i64 (x.cd), .int .i64 (x.cl)]] w fun e w' => e = .returned (.bool (true)) ∧ Below w.heap.size w w' := by
  have hsi := fun W (h1 : IntsAt W (.slice a.1 x.cs.length a.2) x.cs) (h2 : IntsAt W (.slice b.1 x.cs.length b.2) x.cs) => r15_sameints x.cs a.1 b.1 a.2 b.2 W h1 h2 hn
  have HSI := Lib.hid hsi; clear hsi
  have hal := ((Below.refl w.heap.size w).alloc (Nat.le_refl _) (.cells #[.int .i64 (x.ef), .slice a.1 x.cs.length a.2, .int .i64 (x.ce), .int .i64 (x.cr), .int .i64 (x.cd), .int .i64 (x.cl)] 68)).alloc (by simp) (.cells #[.int .i64 (x.ef), .slice b.1 x.cs.length b.2, .int .i64 (x.ce), .int .i64 (x.cr), .int .i64 (x.cd), .int .i64 (x.cl)] 68)
  have HIA := Lib.hid (IntsAt.below ha hal); have HIB := Lib.hid (IntsAt.below hb hal); have HB := Lib.hid hal; clear hal ha hb
  have HX := Lib.hid ((Blk.new w 68 #[.int .i64 (x.ef), .slice a.1 x.cs.length a.2, .int .i64 (x.ce), .int .i64 (x.cr), .int .i64 (x.cd), .int .i64 (x.cl)]).alloc (.cells #[.int .i64 (x.ef), .slice b.1 x.cs.length b.2, .int .i64 (x.ce), .int .i64 (x.cr), .int .i64 (x.cd), .int .i64 (x.cl)] 68))
  have hA := Blk.new (w.alloc (.cells #[.int .i64 (x.ef), .slice a.1 x.cs.length a.2, .int .i64 (x.ce), .int .i64 (x.cr), .int .i64 (x.cd), .int .i64 (x.cl)] 68)) 68 #[.int .i64 (x.ef), .slice b.1 x.cs.length b.2, .int .i64 (x.ce), .int .i64 (x.cr), .int .i64 (x.cd), .int .i64 (x.cl)]
  rw [World.size_alloc] at hA
  have HY := Lib.hid hA; clear hA
  obtain ⟨u0, u1, u2, u3, u4, u5, xf0, xf1, xf2, xf3, xf4, xf5⟩ := HX.out.c6
  obtain ⟨y0, y1, y2, y3, y4, y5, yf0, yf1, yf2, yf3, yf4, yf5⟩ := HY.out.c6
  go_enter Tryz.func39, Tryz.ntmps39
  go_wp2_with (first | (with_reducible refine ((HSI.out _ HIA.out HIB.out).mono ?_); rintro e w' ⟨rfl, hb⟩; replace HB := Lib.hid (bch' HB.out hb); clear hb))
  go_ret
  exact ⟨rfl, HB.out⟩

set_option maxRecDepth 100000 in
set_option maxHeartbeats 1000000 in
theorem r28_sameruns (l : List Rnx) (u v : Value) (w : World) (hu : RunsAt w u l) (hv : RunsAt w v l) (hn : l.length ≤ 1000000) (hc : ∀ x ∈ l, x.cs.length ≤ 1000000) :
    Calls Tryz.prog 12 #[u, v] w fun e w' => e = .returned (.bool (true)) ∧ Below w.heap.size w w' := by
  obtain ⟨L1, p1, c1, rfl, m1, row1, has1⟩ := hu
  obtain ⟨L2, p2, c2, rfl, m2, row2, has2⟩ := hv
  have l1 : L1.length = l.length := by rw [← m1, List.length_map]
  have l2 : L2.length = l.length := by rw [← m2, List.length_map]
  rw [l1, l2]
  have HL1 := Lib.hid l1; have HL2 := Lib.hid l2; have HM1 := Lib.hid m1; have HM2 := Lib.hid m2; have HR1 := Lib.hid row1; have HR2 := Lib.hid row2; have HH1 := Lib.hid has1; have HH2 := Lib.hid has2; have HC := Lib.hid hc
  clear l1 l2 m1 m2 row1 row2 has1 has2 hc
  have HB := Lib.hid (Below.refl w.heap.size w)
  go_enter Tryz.func12, Tryz.ntmps12
  go_wp2_with fail
  go_loopw [5] (fun s5 wr => ∃ i : Nat, s5 = .int .i64 (i : Int) ∧ i ≤ l.length ∧ Hid (Below w.heap.size w wr)) (fun s5 _ => l.length - (intOf s5).toNat)
  case atStart => exact ⟨0, rfl, by omega, HB⟩
  case round =>
    clear HB
    obtain ⟨i, rfl, hil, HB⟩ := hrel
    by_cases hlt : i < l.length
    · have hlt1 : (i : Int) < (l.length : Int) := by omega
      have hi0 : (0 : Int) ≤ (i : Int) := by omega
      have hun : IntKind.i64.wrap ((i : Int) + 1) = (i : Int) + 1 := IntWalk.i64_in _ (by omega)
      obtain ⟨ba, oa, rfl, hba, hCa⟩ := HR1.out (fun e => by have := HL1.out; rw [e] at this; simp at this; omega)
      obtain ⟨bb, ob, rfl, hbb, hCb⟩ := HR2.out (fun e => by have := HL2.out; rw [e] at this; simp at this; omega)
      obtain ⟨⟨x, q⟩, hq⟩ : ∃ y, y = L1[i]'(by have := HL1.out; omega) := ⟨_, rfl⟩
      obtain ⟨⟨x2, r⟩, hr⟩ : ∃ y, y = L2[i]'(by have := HL2.out; omega) := ⟨_, rfl⟩
      have hxx : x = x2 := by have e1 := congrArg (fun l => l[i]?) HM1.out; have e2 := congrArg (fun l => l[i]?) HM2.out; simp only [List.getElem?_map] at e1 e2; rw [List.getElem?_eq_getElem (by have := HL1.out; omega), ← hq] at e1; rw [List.getElem?_eq_getElem (by have := HL2.out; omega), ← hr] at e2; have := e1.trans e2.symm; simpa using this
      subst hxx
      have h1 := HH1.out _ (List.getElem_mem (show i < L1.length by have := HL1.out; omega))
      rw [← hq] at h1
      have h2 := HH2.out _ (List.getElem_mem (show i < L2.length by have := HL2.out; omega))
      rw [← hr] at h2
      obtain ⟨q1, q2, q3⟩ := q
      obtain ⟨r1, r2, r3⟩ := r
      dsimp only at h1 h2
      obtain rfl : q2 = x.cs.length := by obtain ⟨_, _, e, -⟩ := h1.1; injection e
      obtain rfl : r2 = x.cs.length := by obtain ⟨_, _, e, -⟩ := h2.1; injection e
      have hca := hCa i (by have := HL1.out; omega)
      rw [← hq] at hca
      have hcb := hCb i (by have := HL2.out; omega)
      rw [← hr] at hcb
      have hcx := HC.out x (by rw [← HM1.out]; exact List.mem_map.2 ⟨_, List.getElem_mem (show i < L1.length by have := HL1.out; omega), by rw [← hq]⟩)
      have hsr := fun W (a1 : IntsAt W (.slice q1 x.cs.length q3) x.cs) (a2 : IntsAt W (.slice r1 x.cs.length r3) x.cs) => r28_samerun x (q1, q3) (r1, r3) W a1 a2 hcx
      dsimp only at hsr
      have ea0 := hca 0 _ rfl
      have ea1 := hca 1 _ rfl
      have ea2 := hca 2 _ rfl
      have ea3 := hca 3 _ rfl
      have ea4 := hca 4 _ rfl
      have ea5 := hca 5 _ rfl
      have eb0 := hcb 0 _ rfl
      have eb1 := hcb 1 _ rfl
      have eb2 := hcb 2 _ rfl
      have eb3 := hcb 3 _ rfl
      have eb4 := hcb 4 _ rfl
      have eb5 := hcb 5 _ rfl
      rw [Nat.add_zero] at ea0 eb0
      have HEA0 := Lib.hid ea0; have HEB0 := Lib.hid eb0; have HEA1 := Lib.hid ea1; have HEB1 := Lib.hid eb1; have HEA2 := Lib.hid ea2; have HEB2 := Lib.hid eb2; have HEA3 := Lib.hid ea3; have HEB3 := Lib.hid eb3; have HEA4 := Lib.hid ea4; have HEB4 := Lib.hid eb4; have HEA5 := Lib.hid ea5; have HEB5 := Lib.hid eb5
      have H1 := Lib.hid h1.1; have H2 := Lib.hid h2.1; have HA := Lib.hid hba; have HBb := Lib.hid hbb; have HSR := Lib.hid hsr
      clear hca hcb hCa hCb hq hr h1 h2 hba hbb hsr hcx ea0 eb0 ea1 eb1 ea2 eb2 ea3 eb3 ea4 eb4 ea5 eb5
      have hj1 : (i : Int) < (l.length : Int) := hlt1
      go_upto_region 6 with fail
      have a0 := fun p : BelowOf _ => ((bch' HB.out p.h).cell (p := ⟨ba, oa + i * 6, none⟩) HA.out).trans HEA0.out
      have a1 := fun p : BelowOf _ => ((bch' HB.out p.h).cell (p := ⟨ba, oa + i * 6 + 1, none⟩) HA.out).trans HEA1.out
      have a2 := fun p : BelowOf _ => ((bch' HB.out p.h).cell (p := ⟨ba, oa + i * 6 + 2, none⟩) HA.out).trans HEA2.out
      have a3 := fun p : BelowOf _ => ((bch' HB.out p.h).cell (p := ⟨ba, oa + i * 6 + 3, none⟩) HA.out).trans HEA3.out
      have a4 := fun p : BelowOf _ => ((bch' HB.out p.h).cell (p := ⟨ba, oa + i * 6 + 4, none⟩) HA.out).trans HEA4.out
      have a5 := fun p : BelowOf _ => ((bch' HB.out p.h).cell (p := ⟨ba, oa + i * 6 + 5, none⟩) HA.out).trans HEA5.out
      have b0 := fun p : BelowOf _ => ((bch' HB.out p.h).cell (p := ⟨bb, ob + i * 6, none⟩) HBb.out).trans HEB0.out
      have b1 := fun p : BelowOf _ => ((bch' HB.out p.h).cell (p := ⟨bb, ob + i * 6 + 1, none⟩) HBb.out).trans HEB1.out
      have b2 := fun p : BelowOf _ => ((bch' HB.out p.h).cell (p := ⟨bb, ob + i * 6 + 2, none⟩) HBb.out).trans HEB2.out
      have b3 := fun p : BelowOf _ => ((bch' HB.out p.h).cell (p := ⟨bb, ob + i * 6 + 3, none⟩) HBb.out).trans HEB3.out
      have b4 := fun p : BelowOf _ => ((bch' HB.out p.h).cell (p := ⟨bb, ob + i * 6 + 4, none⟩) HBb.out).trans HEB4.out
      have b5 := fun p : BelowOf _ => ((bch' HB.out p.h).cell (p := ⟨bb, ob + i * 6 + 5, none⟩) HBb.out).trans HEB5.out
      have z1 := fun p : BelowOf _ => Nat.lt_of_lt_of_le HA.out (bch' HB.out p.h).size
      have z2 := fun p : BelowOf _ => Nat.lt_of_lt_of_le HBb.out (bch' HB.out p.h).size
      refine wp_region_WQ (by kernel_rfl) (by kernel_rfl) ?_
      repeat (refine WQ.step (fun K hK => ?_); go_simp; first | (refine hK.out _ ?_; clear hK K) | (apply Exists.intro; refine ⟨fun _ => ?_, hK.out _ ?_⟩; (first | rfl | (go_at_call 39; exact calls_below_of _ (HSR.out _ (IntsAt.below H1.out (bch' HB.out (BelowOf.h _))) (IntsAt.below H2.out (bch' HB.out (BelowOf.h _)))))); clear hK K))
      refine WQ.nil ?_
      intro _ hw'
      obtain ⟨⟨wq, hbq⟩, hw2⟩ := hw'
      subst hw2
      replace HB := Lib.hid (bch' HB.out hbq)
      clear a0 a1 a2 a3 a4 a5 b0 b1 b2 b3 b4 b5 z1 z2
      go_wp2_with fail
      go_roundw
      case rel => exact ⟨i + 1, by first | rfl | simp, by omega, HB⟩
      case measure => first | (simp [intOf]; done) | (simp [intOf]; omega)
    · have hlt1 : ¬ (i : Int) < (l.length : Int) := by omega
      go_wp2_with fail
      go_ret
      exact ⟨rfl, HB.out⟩
end Go.Proofs.YtbeojahilbglcaaGreatDoor
namespace Lum
open Go Go.RowKit Go.Shelf
open Go.Lib (decDigits itoa)
theorem fst_atF {α β : Type} {L : List (α × β)} {R : List α} (hM : L.map (fun x => x.1) = R) {k : Nat} (h1 : k < L.length) (h2 : k < R.length) : R[k]'h2 = (L[k]'h1).1 := by subst hM; rw [List.getElem_map]
/-- Whether a running effect's channels are few, or too many. -/
def fewC (x : Rnx) : Bool := !decide (8 < x.cs.length ∧ x.cs.length ≤ 256)
/-- Whether effects and running effects are few, or too many. -/
def fewB (n : Nat) (R : List Rnx) : Bool := !decide (4 < n ∧ n ≤ 16) && (!decide (4 < R.length ∧ R.length ≤ 16) && (R.take 4).all fewC)
theorem fewB_n {n : Nat} {R : List Rnx} (h : 4 < n ∧ n ≤ 16) : fewB n R = false := by unfold fewB; rw [decide_eq_true h]; rfl
theorem fewB_r {n : Nat} {R : List Rnx} (h0 : ¬ (4 < n ∧ n ≤ 16)) (h : 4 < R.length ∧ R.length ≤ 16) : fewB n R = false := by unfold fewB; rw [decide_eq_false h0, decide_eq_true h]; rfl
theorem fewB_c {n : Nat} {R : List Rnx} (h0 : ¬ (4 < n ∧ n ≤ 16)) (h : ¬ (4 < R.length ∧ R.length ≤ 16)) : fewB n R = (R.take 4).all fewC := by unfold fewB; rw [decide_eq_false h0, decide_eq_false h]; rfl
theorem few_all {R : List Rnx} {k : Nat} (hk : k = R.length ∨ 4 ≤ k) (h : ∀ j (hj : j < R.length), j < k → fewC (R[j]'hj) = true) : (R.take 4).all fewC = true := List.all_eq_true.2 fun x hx => by
  obtain ⟨j, hj, h1, rfl⟩ := mem_take_at hx
  exact h j hj (by omega)
theorem few_bad {R : List Rnx} {k : Nat} (hk : k < R.length) (h4 : k < 4) (h : fewC (R[k]'hk) = false) : (R.take 4).all fewC = false := List.all_eq_false.2 ⟨R[k]'hk, List.mem_take_iff_getElem.2 ⟨k, by omega, rfl⟩, by rw [h]; decide⟩
/-- A list that is right is short. -/
theorem runs_short {R : List Rnx} (h : rnsE R = 0) : R.length ≤ 16 ∧ ∀ x ∈ R, x.cs.length ≤ 256 := by
  have hok := ordOk (show ordE rnE (·.ef) R = 0 from h)
  refine ⟨hok.few, fun x hx => ?_⟩
  obtain ⟨j, hj, rfl⟩ := List.getElem_of_mem hx
  exact (rnOk (hok.ok j hj)).ch.few
theorem putL_short {R : List Rnx} {x : Rnx} (h : R.length ≤ 16 ∧ ∀ x ∈ R, x.cs.length ≤ 256) (hx : x.cs.length ≤ 256) : (putL R x).length ≤ 1000000 ∧ ∀ y ∈ putL R x, y.cs.length ≤ 1000000 := by
  unfold putL
  refine ⟨?_, fun y hy => ?_⟩
  · rw [List.length_append, List.length_cons]
    have h1 := List.length_filter_le (fun y => decide (y.ef < x.ef)) R
    have h2 := List.length_filter_le (fun y => decide (x.ef < y.ef)) R
    omega
  · rcases List.mem_append.1 hy with h1 | h1
    · have := h.2 y (List.mem_filter.1 h1).1; omega
    · rcases List.mem_cons.1 h1 with rfl | h2
      · omega
      · have := h.2 y (List.mem_filter.1 h2).1; omega
def listIf (E : Int) (L : List Rnx) : List Rnx := if E = 0 then L else []
theorem runs_if {w' : World} {v : Value} {E : Int} {L : List Rnx} (h1 : E = 0 → RunsAt w' v L) (h2 : ¬ E = 0 → v = .slice none 0 0) : RunsAt w' v (listIf E L) := by
  unfold listIf
  by_cases h : E = 0
  · rw [if_pos h]; exact h1 h
  · rw [if_neg h, h2 h]; exact runsAt_nil28 w'
theorem start_short {R : List Rnx} {n t : Int} {cs : List Int} : (listIf (stE R n cs t) (putL R (newR n cs t))).length ≤ 1000000 ∧ ∀ y ∈ listIf (stE R n cs t) (putL R (newR n cs t)), y.cs.length ≤ 1000000 := by
  unfold listIf
  by_cases h : stE R n cs t = 0
  · rw [if_pos h]
    by_cases h1 : rnsE R = 0
    · by_cases h2 : wiB t 0 10000000 = true
      · by_cases h3 : rnE (newR n cs t) = 0
        · exact putL_short (runs_short h1) (rnOk h3).ch.few
        · rw [stE_run h1 h2 h3] at h; exact absurd h h3
      · rw [stE_time h1 (by simpa using h2)] at h; cases h
    · rw [stE_tab h1] at h; exact absurd h h1
  · rw [if_neg h]; exact ⟨by simp, fun y hy => by cases hy⟩
theorem rate_short {R : List Rnx} {n t z : Int} : (listIf (rtE R n t z) (rtL R n t z)).length ≤ 1000000 ∧ ∀ y ∈ listIf (rtE R n t z) (rtL R n t z), y.cs.length ≤ 1000000 := by
  unfold listIf
  by_cases h : rtE R n t z = 0
  · rw [if_pos h]
    by_cases h1 : rnsE R = 0
    · cases h2 : R.find? (fun x => x.ef == n) with
      | none => rw [rtE_no h1 h2] at h; cases h
      | some x =>
        rw [rtL_at h2]
        have hx := List.mem_of_find?_eq_some h2
        exact putL_short (runs_short h1) ((runs_short h1).2 x hx)
    · rw [rtE_tab h1] at h; exact absurd h h1
  · rw [if_neg h]; exact ⟨by simp, fun y hy => by cases hy⟩
theorem stop_short {R : List Rnx} {n : Int} : (listIf (rnsE R) (R.filter (fun x => x.ef != n))).length ≤ 1000000 ∧ ∀ y ∈ listIf (rnsE R) (R.filter (fun x => x.ef != n)), y.cs.length ≤ 1000000 := by
  unfold listIf
  by_cases h : rnsE R = 0
  · rw [if_pos h]
    obtain ⟨h1, h2⟩ := runs_short h
    refine ⟨?_, fun y hy => by have := h2 y (List.mem_filter.1 hy).1; omega⟩
    have := List.length_filter_le (fun x : Rnx => x.ef != n) R
    omega
  · rw [if_neg h]; exact ⟨by simp, fun y hy => by cases hy⟩
end Lum
namespace Go.Proofs.YtbeojahilbglcaaGreatDoor
open Go.RowKit Go.Shelf Lum
open Go.Lib (decDigits itoa)
attribute [local go_sem] bs_get bs_extract_end bs_extract_from bs_extract bs_append

set_option maxRecDepth 100000 in
set_option maxHeartbeats 4000000 in
theorem r28_few (R : List Rnx) (u : Value) (p : Option Addr) (m c : Nat) (w : World) (hr : RunsAt w u R) :
    Calls Tryz.prog 6 #[.slice p m c, u] w fun e w' => e = .returned (.bool (fewB m R)) ∧ w = w' := by
  obtain ⟨L, p2, c2, rfl, hM, hR, hC0⟩ := hr
  have hl : L.length = R.length := by rw [← hM, List.length_map]
  have hv2 := Lib.hid hR; have HCN := Lib.hid hC0; have HM := Lib.hid hM; clear hR hC0 hM
  by_cases h1 : 4 < m ∧ m ≤ 16
  · rw [fewB_n h1]
    have hL1 : (4 : Int) < (m : Int) := by omega
    have hL2 : (m : Int) ≤ 16 := by omega
    go_enter Tryz.func6, Tryz.ntmps6
    go_wp2_with fail
    go_ret
    exact ⟨rfl, rfl⟩
  · by_cases h7 : 4 < m
    · have hL1 : (4 : Int) < (m : Int) := by omega
      have hL2 : ¬ (m : Int) ≤ 16 := by omega
      by_cases h2 : 4 < R.length ∧ R.length ≤ 16
      · have hL3 : (4 : Int) < (L.length : Int) := by omega
        have hL4 : (L.length : Int) ≤ 16 := by omega
        rw [fewB_r h1 h2]
        go_enter Tryz.func6, Tryz.ntmps6
        go_wp2_with fail
        go_ret
        exact ⟨rfl, rfl⟩
      · by_cases h6 : 4 < R.length
        · have hL3 : (4 : Int) < (L.length : Int) := by omega
          have hL4 : ¬ (L.length : Int) ≤ 16 := by omega
          rw [fewB_c h1 h2]
          go_enter Tryz.func6, Tryz.ntmps6
          go_wp2_with fail
          go_loopw [5] (fun s wr => ∃ k : Nat, s = .int .i64 (k : Int) ∧ w = wr ∧ k ≤ R.length ∧ Hid (∀ j (hj : j < R.length), j < k → fewC (R[j]'hj) = true)) (fun s _ => R.length - (intOf s).toNat)
          case atStart => exact ⟨0, rfl, rfl, by omega, Lib.hid (fun j hj h => absurd h (Nat.not_lt_zero _))⟩
          case round =>
            obtain ⟨k, rfl, rfl, h5, HF⟩ := hrel
            by_cases h3 : k < R.length
            · have hlt : (k : Int) < (L.length : Int) := by omega
              by_cases h4 : k < 4
              · have hkr : k < R.length := by omega
                have hk4 : (k : Int) < 4 := by omega
                have hkl : k < L.length := by omega
                obtain ⟨b, o, rfl, hb, hC⟩ := hv2.out (fun h => by subst h; simp at hkl)
                obtain ⟨⟨x, q1, q2, q3⟩, hx⟩ : ∃ x, x = L[k]'hkl := ⟨_, rfl⟩
                have hcell := hC k hkl
                rw [← hx] at hcell
                have hq := (HCN.out _ (List.getElem_mem hkl)).1.len
                rw [← hx] at hq
                dsimp only at hq
                subst hq
                have hxr : R[k]'hkr = x := (fst_atF HM.out hkl hkr).trans (by rw [← hx])
                have y1 := hcell 1 _ rfl
                have hk0 : (0 : Int) ≤ (k : Int) := by omega
                have hlt2 : (k : Int) < (L.length : Int) := by omega
                clear hcell hC
                by_cases h8 : 8 < x.cs.length
                · by_cases h9 : x.cs.length ≤ 256
                  · have HA : Hid ((R.take 4).all fewC = false) := Lib.hid (few_bad hkr h4 (by rw [hxr]; unfold fewC; simp; omega))
                    have hl1 : (8 : Int) < (x.cs.length : Int) := by omega
                    have hl2 : (x.cs.length : Int) ≤ 256 := by omega
                    clear hxr hx
                    go_wp2_with fail
                    go_ret
                    exact ⟨by rw [HA.out]; rfl, rfl⟩
                  · have hl1 : (8 : Int) < (x.cs.length : Int) := by omega
                    have hl2 : ¬ (x.cs.length : Int) ≤ 256 := by omega
                    have HF2 : Hid (∀ j (hj : j < R.length), j < k + 1 → fewC (R[j]'hj) = true) := Lib.hid (fun j hj h => by by_cases e : j = k; (subst e; rw [hxr]; unfold fewC; simp; omega); exact HF.out j hj (by omega))
                    have hun : IntKind.i64.wrap ((k : Int) + 1) = (k : Int) + 1 := IntWalk.i64_in _ (by omega)
                    clear hxr hx
                    go_wp2_with fail
                    go_roundw
                    case rel => exact ⟨k + 1, by first | rfl | simp, by trivial, by omega, HF2⟩
                    case measure => first | (simp [intOf]; done) | (simp [intOf]; omega)
                · have hl1 : ¬ (8 : Int) < (x.cs.length : Int) := by omega
                  have HF2 : Hid (∀ j (hj : j < R.length), j < k + 1 → fewC (R[j]'hj) = true) := Lib.hid (fun j hj h => by by_cases e : j = k; (subst e; rw [hxr]; unfold fewC; simp; omega); exact HF.out j hj (by omega))
                  have hun : IntKind.i64.wrap ((k : Int) + 1) = (k : Int) + 1 := IntWalk.i64_in _ (by omega)
                  clear hxr hx
                  go_wp2_with fail
                  go_roundw
                  case rel => exact ⟨k + 1, by first | rfl | simp, by trivial, by omega, HF2⟩
                  case measure => first | (simp [intOf]; done) | (simp [intOf]; omega)
              · have hk4 : ¬ (k : Int) < 4 := by omega
                have HA : Hid ((R.take 4).all fewC = true) := Lib.hid (few_all (k := k) (by omega) HF.out)
                go_wp2_with fail
                go_ret
                exact ⟨by rw [HA.out]; rfl, rfl⟩
            · have hlt : ¬ (k : Int) < (L.length : Int) := by omega
              have HA : Hid ((R.take 4).all fewC = true) := Lib.hid (few_all (k := k) (by omega) HF.out)
              go_wp2_with fail
              go_ret
              exact ⟨by rw [HA.out]; rfl, rfl⟩
        · have hL3 : ¬ (4 : Int) < (L.length : Int) := by omega
          rw [fewB_c h1 h2]
          go_enter Tryz.func6, Tryz.ntmps6
          go_wp2_with fail
          go_loopw [5] (fun s wr => ∃ k : Nat, s = .int .i64 (k : Int) ∧ w = wr ∧ k ≤ R.length ∧ Hid (∀ j (hj : j < R.length), j < k → fewC (R[j]'hj) = true)) (fun s _ => R.length - (intOf s).toNat)
          case atStart => exact ⟨0, rfl, rfl, by omega, Lib.hid (fun j hj h => absurd h (Nat.not_lt_zero _))⟩
          case round =>
            obtain ⟨k, rfl, rfl, h5, HF⟩ := hrel
            by_cases h3 : k < R.length
            · have hlt : (k : Int) < (L.length : Int) := by omega
              by_cases h4 : k < 4
              · have hkr : k < R.length := by omega
                have hk4 : (k : Int) < 4 := by omega
                have hkl : k < L.length := by omega
                obtain ⟨b, o, rfl, hb, hC⟩ := hv2.out (fun h => by subst h; simp at hkl)
                obtain ⟨⟨x, q1, q2, q3⟩, hx⟩ : ∃ x, x = L[k]'hkl := ⟨_, rfl⟩
                have hcell := hC k hkl
                rw [← hx] at hcell
                have hq := (HCN.out _ (List.getElem_mem hkl)).1.len
                rw [← hx] at hq
                dsimp only at hq
                subst hq
                have hxr : R[k]'hkr = x := (fst_atF HM.out hkl hkr).trans (by rw [← hx])
                have y1 := hcell 1 _ rfl
                have hk0 : (0 : Int) ≤ (k : Int) := by omega
                have hlt2 : (k : Int) < (L.length : Int) := by omega
                clear hcell hC
                by_cases h8 : 8 < x.cs.length
                · by_cases h9 : x.cs.length ≤ 256
                  · have HA : Hid ((R.take 4).all fewC = false) := Lib.hid (few_bad hkr h4 (by rw [hxr]; unfold fewC; simp; omega))
                    have hl1 : (8 : Int) < (x.cs.length : Int) := by omega
                    have hl2 : (x.cs.length : Int) ≤ 256 := by omega
                    clear hxr hx
                    go_wp2_with fail
                    go_ret
                    exact ⟨by rw [HA.out]; rfl, rfl⟩
                  · have hl1 : (8 : Int) < (x.cs.length : Int) := by omega
                    have hl2 : ¬ (x.cs.length : Int) ≤ 256 := by omega
                    have HF2 : Hid (∀ j (hj : j < R.length), j < k + 1 → fewC (R[j]'hj) = true) := Lib.hid (fun j hj h => by by_cases e : j = k; (subst e; rw [hxr]; unfold fewC; simp; omega); exact HF.out j hj (by omega))
                    have hun : IntKind.i64.wrap ((k : Int) + 1) = (k : Int) + 1 := IntWalk.i64_in _ (by omega)
                    clear hxr hx
                    go_wp2_with fail
                    go_roundw
                    case rel => exact ⟨k + 1, by first | rfl | simp, by trivial, by omega, HF2⟩
                    case measure => first | (simp [intOf]; done) | (simp [intOf]; omega)
                · have hl1 : ¬ (8 : Int) < (x.cs.length : Int) := by omega
                  have HF2 : Hid (∀ j (hj : j < R.length), j < k + 1 → fewC (R[j]'hj) = true) := Lib.hid (fun j hj h => by by_cases e : j = k; (subst e; rw [hxr]; unfold fewC; simp; omega); exact HF.out j hj (by omega))
                  have hun : IntKind.i64.wrap ((k : Int) + 1) = (k : Int) + 1 := IntWalk.i64_in _ (by omega)
                  clear hxr hx
                  go_wp2_with fail
                  go_roundw
                  case rel => exact ⟨k + 1, by first | rfl | simp, by trivial, by omega, HF2⟩
                  case measure => first | (simp [intOf]; done) | (simp [intOf]; omega)
              · have hk4 : ¬ (k : Int) < 4 := by omega
                have HA : Hid ((R.take 4).all fewC = true) := Lib.hid (few_all (k := k) (by omega) HF.out)
                go_wp2_with fail
                go_ret
                exact ⟨by rw [HA.out]; rfl, rfl⟩
            · have hlt : ¬ (k : Int) < (L.length : Int) := by omega
              have HA : Hid ((R.take 4).all fewC = true) := Lib.hid (few_all (k := k) (by omega) HF.out)
              go_wp2_with fail
              go_ret
              exact ⟨by rw [HA.out]; rfl, rfl⟩
    · have hL1 : ¬ (4 : Int) < (m : Int) := by omega
      by_cases h2 : 4 < R.length ∧ R.length ≤ 16
      · have hL3 : (4 : Int) < (L.length : Int) := by omega
        have hL4 : (L.length : Int) ≤ 16 := by omega
        rw [fewB_r h1 h2]
        go_enter Tryz.func6, Tryz.ntmps6
        go_wp2_with fail
        go_ret
        exact ⟨rfl, rfl⟩
      · by_cases h6 : 4 < R.length
        · have hL3 : (4 : Int) < (L.length : Int) := by omega
          have hL4 : ¬ (L.length : Int) ≤ 16 := by omega
          rw [fewB_c h1 h2]
          go_enter Tryz.func6, Tryz.ntmps6
          go_wp2_with fail
          go_loopw [5] (fun s wr => ∃ k : Nat, s = .int .i64 (k : Int) ∧ w = wr ∧ k ≤ R.length ∧ Hid (∀ j (hj : j < R.length), j < k → fewC (R[j]'hj) = true)) (fun s _ => R.length - (intOf s).toNat)
          case atStart => exact ⟨0, rfl, rfl, by omega, Lib.hid (fun j hj h => absurd h (Nat.not_lt_zero _))⟩
          case round =>
            obtain ⟨k, rfl, rfl, h5, HF⟩ := hrel
            by_cases h3 : k < R.length
            · have hlt : (k : Int) < (L.length : Int) := by omega
              by_cases h4 : k < 4
              · have hkr : k < R.length := by omega
                have hk4 : (k : Int) < 4 := by omega
                have hkl : k < L.length := by omega
                obtain ⟨b, o, rfl, hb, hC⟩ := hv2.out (fun h => by subst h; simp at hkl)
                obtain ⟨⟨x, q1, q2, q3⟩, hx⟩ : ∃ x, x = L[k]'hkl := ⟨_, rfl⟩
                have hcell := hC k hkl
                rw [← hx] at hcell
                have hq := (HCN.out _ (List.getElem_mem hkl)).1.len
                rw [← hx] at hq
                dsimp only at hq
                subst hq
                have hxr : R[k]'hkr = x := (fst_atF HM.out hkl hkr).trans (by rw [← hx])
                have y1 := hcell 1 _ rfl
                have hk0 : (0 : Int) ≤ (k : Int) := by omega
                have hlt2 : (k : Int) < (L.length : Int) := by omega
                clear hcell hC
                by_cases h8 : 8 < x.cs.length
                · by_cases h9 : x.cs.length ≤ 256
                  · have HA : Hid ((R.take 4).all fewC = false) := Lib.hid (few_bad hkr h4 (by rw [hxr]; unfold fewC; simp; omega))
                    have hl1 : (8 : Int) < (x.cs.length : Int) := by omega
                    have hl2 : (x.cs.length : Int) ≤ 256 := by omega
                    clear hxr hx
                    go_wp2_with fail
                    go_ret
                    exact ⟨by rw [HA.out]; rfl, rfl⟩
                  · have hl1 : (8 : Int) < (x.cs.length : Int) := by omega
                    have hl2 : ¬ (x.cs.length : Int) ≤ 256 := by omega
                    have HF2 : Hid (∀ j (hj : j < R.length), j < k + 1 → fewC (R[j]'hj) = true) := Lib.hid (fun j hj h => by by_cases e : j = k; (subst e; rw [hxr]; unfold fewC; simp; omega); exact HF.out j hj (by omega))
                    have hun : IntKind.i64.wrap ((k : Int) + 1) = (k : Int) + 1 := IntWalk.i64_in _ (by omega)
                    clear hxr hx
                    go_wp2_with fail
                    go_roundw
                    case rel => exact ⟨k + 1, by first | rfl | simp, by trivial, by omega, HF2⟩
                    case measure => first | (simp [intOf]; done) | (simp [intOf]; omega)
                · have hl1 : ¬ (8 : Int) < (x.cs.length : Int) := by omega
                  have HF2 : Hid (∀ j (hj : j < R.length), j < k + 1 → fewC (R[j]'hj) = true) := Lib.hid (fun j hj h => by by_cases e : j = k; (subst e; rw [hxr]; unfold fewC; simp; omega); exact HF.out j hj (by omega))
                  have hun : IntKind.i64.wrap ((k : Int) + 1) = (k : Int) + 1 := IntWalk.i64_in _ (by omega)
                  clear hxr hx
                  go_wp2_with fail
                  go_roundw
                  case rel => exact ⟨k + 1, by first | rfl | simp, by trivial, by omega, HF2⟩
                  case measure => first | (simp [intOf]; done) | (simp [intOf]; omega)
              · have hk4 : ¬ (k : Int) < 4 := by omega
                have HA : Hid ((R.take 4).all fewC = true) := Lib.hid (few_all (k := k) (by omega) HF.out)
                go_wp2_with fail
                go_ret
                exact ⟨by rw [HA.out]; rfl, rfl⟩
            · have hlt : ¬ (k : Int) < (L.length : Int) := by omega
              have HA : Hid ((R.take 4).all fewC = true) := Lib.hid (few_all (k := k) (by omega) HF.out)
              go_wp2_with fail
              go_ret
              exact ⟨by rw [HA.out]; rfl, rfl⟩
        · have hL3 : ¬ (4 : Int) < (L.length : Int) := by omega
          rw [fewB_c h1 h2]
          go_enter Tryz.func6, Tryz.ntmps6
          go_wp2_with fail
          go_loopw [5] (fun s wr => ∃ k : Nat, s = .int .i64 (k : Int) ∧ w = wr ∧ k ≤ R.length ∧ Hid (∀ j (hj : j < R.length), j < k → fewC (R[j]'hj) = true)) (fun s _ => R.length - (intOf s).toNat)
          case atStart => exact ⟨0, rfl, rfl, by omega, Lib.hid (fun j hj h => absurd h (Nat.not_lt_zero _))⟩
          case round =>
            obtain ⟨k, rfl, rfl, h5, HF⟩ := hrel
            by_cases h3 : k < R.length
            · have hlt : (k : Int) < (L.length : Int) := by omega
              by_cases h4 : k < 4
              · have hkr : k < R.length := by omega
                have hk4 : (k : Int) < 4 := by omega
                have hkl : k < L.length := by omega
                obtain ⟨b, o, rfl, hb, hC⟩ := hv2.out (fun h => by subst h; simp at hkl)
                obtain ⟨⟨x, q1, q2, q3⟩, hx⟩ : ∃ x, x = L[k]'hkl := ⟨_, rfl⟩
                have hcell := hC k hkl
                rw [← hx] at hcell
                have hq := (HCN.out _ (List.getElem_mem hkl)).1.len
                rw [← hx] at hq
                dsimp only at hq
                subst hq
                have hxr : R[k]'hkr = x := (fst_atF HM.out hkl hkr).trans (by rw [← hx])
                have y1 := hcell 1 _ rfl
                have hk0 : (0 : Int) ≤ (k : Int) := by omega
                have hlt2 : (k : Int) < (L.length : Int) := by omega
                clear hcell hC
                by_cases h8 : 8 < x.cs.length
                · by_cases h9 : x.cs.length ≤ 256
                  · have HA : Hid ((R.take 4).all fewC = false) := Lib.hid (few_bad hkr h4 (by rw [hxr]; unfold fewC; simp; omega))
                    have hl1 : (8 : Int) < (x.cs.length : Int) := by omega
                    have hl2 : (x.cs.length : Int) ≤ 256 := by omega
                    clear hxr hx
                    go_wp2_with fail
                    go_ret
                    exact ⟨by rw [HA.out]; rfl, rfl⟩
                  · have hl1 : (8 : Int) < (x.cs.length : Int) := by omega
                    have hl2 : ¬ (x.cs.length : Int) ≤ 256 := by omega
                    have HF2 : Hid (∀ j (hj : j < R.length), j < k + 1 → fewC (R[j]'hj) = true) := Lib.hid (fun j hj h => by by_cases e : j = k; (subst e; rw [hxr]; unfold fewC; simp; omega); exact HF.out j hj (by omega))
                    have hun : IntKind.i64.wrap ((k : Int) + 1) = (k : Int) + 1 := IntWalk.i64_in _ (by omega)
                    clear hxr hx
                    go_wp2_with fail
                    go_roundw
                    case rel => exact ⟨k + 1, by first | rfl | simp, by trivial, by omega, HF2⟩
                    case measure => first | (simp [intOf]; done) | (simp [intOf]; omega)
                · have hl1 : ¬ (8 : Int) < (x.cs.length : Int) := by omega
                  have HF2 : Hid (∀ j (hj : j < R.length), j < k + 1 → fewC (R[j]'hj) = true) := Lib.hid (fun j hj h => by by_cases e : j = k; (subst e; rw [hxr]; unfold fewC; simp; omega); exact HF.out j hj (by omega))
                  have hun : IntKind.i64.wrap ((k : Int) + 1) = (k : Int) + 1 := IntWalk.i64_in _ (by omega)
                  clear hxr hx
                  go_wp2_with fail
                  go_roundw
                  case rel => exact ⟨k + 1, by first | rfl | simp, by trivial, by omega, HF2⟩
                  case measure => first | (simp [intOf]; done) | (simp [intOf]; omega)
              · have hk4 : ¬ (k : Int) < 4 := by omega
                have HA : Hid ((R.take 4).all fewC = true) := Lib.hid (few_all (k := k) (by omega) HF.out)
                go_wp2_with fail
                go_ret
                exact ⟨by rw [HA.out]; rfl, rfl⟩
            · have hlt : ¬ (k : Int) < (L.length : Int) := by omega
              have HA : Hid ((R.take 4).all fewC = true) := Lib.hid (few_all (k := k) (by omega) HF.out)
              go_wp2_with fail
              go_ret
              exact ⟨by rw [HA.out]; rfl, rfl⟩
end Go.Proofs.YtbeojahilbglcaaGreatDoor
namespace Go.Proofs.YtbeojahilbglcaaGreatDoor
open Go.RowKit Go.Shelf Lum
open Go.Lib (decDigits itoa)
attribute [local go_sem] bs_get bs_extract_end bs_extract_from bs_extract bs_append

set_option maxRecDepth 100000 in
set_option maxHeartbeats 8000000 in
theorem law_eruns (R : List Rnx) (u : Value) (N A Z : Int) (cs : List Int) (p : Option Addr) (c : Nat) (w : World) (hr : RunsAt w u R) (hs : SlOk u) (hi : IntsAt w (.slice p cs.length c) cs) (hcap : cs.length ≤ c) (hlen : cs.length ≤ 17592186044416) (n0 : -9223372036854775808 ≤ N) (n1 : N ≤ 9223372036854775807) (env : Env w) :
    Calls Tryz.prog 3 #[u, .agg #[.int .i64 N, .int .i64 A, .int .i64 Z], .slice p cs.length c] w fun e w' => e = .returned (.bool (true)) ∧ Below w.heap.size w w' := by
  have haw := fun W (e : Env W) => l28_awake W e
  have hfw := fun W (h : RunsAt W u R) => r28_few R u none 0 0 W h
  have hs1x := fun W (h : RunsAt W u R) (h2 : IntsAt W (.slice p cs.length c) cs) => own_estart R u N A cs p cs.length c W h h2 hcap hlen
  have hs2x := fun W (h : RunsAt W u R) (h2 : IntsAt W (.slice p cs.length c) cs) => r28_start R u N A cs p cs.length c W h hs h2 hcap
  have hr1 := fun W (h : RunsAt W u R) => own_eruns R u W h
  have hr2 := fun W (h : RunsAt W u R) => r28_runs R u W h
  have ht1 := fun W (h : RunsAt W u R) => own_erate R u N A Z W h n0 n1
  have ht2 := fun W (h : RunsAt W u R) => r28_rate R u N A Z W h hs
  have hp1 := fun W (h : RunsAt W u R) => own_estop R u N W h n0 n1
  have hp2 := fun W (h : RunsAt W u R) => r28_stop R u N W h
  have hq := fun (L : List Rnx) (u v : Value) (hL : L.length ≤ 1000000 ∧ ∀ y ∈ L, y.cs.length ≤ 1000000) W (h1 : RunsAt W u L) (h2 : RunsAt W v L) => r28_sameruns L u v W h1 h2 hL.1 hL.2
  have HSA : Hid _ := Lib.hid (start_short (R := R) (n := N) (t := A) (cs := cs)); have HSB : Hid _ := Lib.hid (rate_short (R := R) (n := N) (t := A) (z := Z)); have HSC : Hid _ := Lib.hid (stop_short (R := R) (n := N))
  change ∀ W, RunsAt W u R → Calls _ _ _ _ (fun e w' => e = .returned (.int .i64 (rnsE R)) ∧ _) at hr1 hr2
  unfold StR at hs1x hs2x
  unfold RtR at ht1 ht2
  unfold StpR at hp1 hp2
  have hal := (Below.refl w.heap.size w).alloc (Nat.le_refl _) (.cells #[.int .i64 N, .int .i64 A, .int .i64 Z] 24)
  have HN := Lib.hid (RunsAt.kept hr hal); have HI := Lib.hid (IntsAt.below hi hal); have ENV := Lib.hid env
  have HB := Lib.hid hal
  have HK := Lib.hid (Blk.new w 24 #[.int .i64 N, .int .i64 A, .int .i64 Z])
  clear hal hr hi hs hcap hlen n0 n1
  generalize stE R N cs A = E1 at *
  generalize putL R (newR N cs A) = L1 at *
  generalize rtE R N A Z = E2 at *
  generalize rtL R N A Z = L2 at *
  generalize R.filter (fun x => x.ef != N) = L3 at *
  generalize (decide (rnsE R = 0) && (R.find? (fun x => x.ef == N)).isSome) = B3 at *
  generalize rnsE R = E3 at *
  have HAW := Lib.hid haw; clear haw
  have HFW := Lib.hid hfw; clear hfw
  have HS1X := Lib.hid hs1x; clear hs1x
  have HS2X := Lib.hid hs2x; clear hs2x
  have HR1 := Lib.hid hr1; clear hr1
  have HR2 := Lib.hid hr2; clear hr2
  have HT1 := Lib.hid ht1; clear ht1
  have HT2 := Lib.hid ht2; clear ht2
  have HP1 := Lib.hid hp1; clear hp1
  have HP2 := Lib.hid hp2; clear hp2
  have HQ := Lib.hid hq; clear hq
  obtain ⟨k0, k1, k2, kf0, kf1, kf2⟩ := HK.out.c3
  by_cases hfb : fewB 0 R = true
  · by_cases h8 : 8 < cs.length
    · by_cases h9 : cs.length ≤ 256
      · have hl1 : (8 : Int) < (cs.length : Int) := by omega
        have hl2 : (cs.length : Int) ≤ 256 := by omega
        rw [hfb] at HFW
        go_enter Tryz.func3, Tryz.ntmps3
        go_wp2_with (first | (with_reducible refine ((HFW.out _ HN.out).mono ?_); rintro e w' ⟨rfl, rfl⟩) | (with_reducible refine ((HAW.out _ (ENV.out.below HB.out)).mono ?_); rintro e w' ⟨rfl, hb⟩; replace HK := Lib.hid (HK.out.keep hb); clear k0 k1 k2 kf0 kf1 kf2; replace HN := Lib.hid (RunsAt.kept HN.out hb); replace HI := Lib.hid (IntsAt.below HI.out hb); replace HB := Lib.hid (bch' HB.out hb); clear hb; obtain ⟨k0, k1, k2, kf0, kf1, kf2⟩ := HK.out.c3))
        go_ret
        exact ⟨rfl, HB.out⟩
      · have hl1 : (8 : Int) < (cs.length : Int) := by omega
        have hl2 : ¬ (cs.length : Int) ≤ 256 := by omega
        rw [hfb] at HFW
        go_enter Tryz.func3, Tryz.ntmps3
        go_upto_region 3 with (first | (with_reducible refine ((HFW.out _ HN.out).mono ?_); rintro e w' ⟨rfl, rfl⟩))
        go_upto_region 4 with (first | (with_reducible refine ((HS1X.out _ HN.out HI.out).mono ?_); rintro e w' ⟨v1, rfl, hg1, hg2, hb⟩; have HV1 := Lib.hid (runs_if hg1 hg2); clear hg1 hg2; replace HK := Lib.hid (HK.out.keep hb); clear k0 k1 k2 kf0 kf1 kf2; replace HN := Lib.hid (RunsAt.kept HN.out hb); replace HI := Lib.hid (IntsAt.below HI.out hb); replace HB := Lib.hid (bch' HB.out hb); clear hb; obtain ⟨k0, k1, k2, kf0, kf1, kf2⟩ := HK.out.c3))
        go_upto_region 5 with (first | (with_reducible refine ((HS2X.out _ HN.out HI.out).mono ?_); rintro e w' ⟨v2, rfl, hg1, hg2, hb⟩; have HV2 := Lib.hid (runs_if hg1 hg2); clear hg1 hg2; replace HK := Lib.hid (HK.out.keep hb); clear k0 k1 k2 kf0 kf1 kf2; replace HN := Lib.hid (RunsAt.kept HN.out hb); replace HI := Lib.hid (IntsAt.below HI.out hb); replace HV1 := Lib.hid (RunsAt.kept HV1.out hb); replace HB := Lib.hid (bch' HB.out hb); clear hb; obtain ⟨k0, k1, k2, kf0, kf1, kf2⟩ := HK.out.c3))
        go_upto_region 7 with (first | (with_reducible refine ((HAW.out _ (ENV.out.below HB.out)).mono ?_); rintro e w' ⟨rfl, hb⟩; replace HK := Lib.hid (HK.out.keep hb); clear k0 k1 k2 kf0 kf1 kf2; replace HN := Lib.hid (RunsAt.kept HN.out hb); replace HI := Lib.hid (IntsAt.below HI.out hb); replace HV1 := Lib.hid (RunsAt.kept HV1.out hb); replace HV2 := Lib.hid (RunsAt.kept HV2.out hb); replace HB := Lib.hid (bch' HB.out hb); clear hb; obtain ⟨k0, k1, k2, kf0, kf1, kf2⟩ := HK.out.c3) | (with_reducible refine ((HR1.out _ HN.out).mono ?_); rintro e w' ⟨rfl, hb⟩; replace HK := Lib.hid (HK.out.keep hb); clear k0 k1 k2 kf0 kf1 kf2; replace HN := Lib.hid (RunsAt.kept HN.out hb); replace HI := Lib.hid (IntsAt.below HI.out hb); replace HV1 := Lib.hid (RunsAt.kept HV1.out hb); replace HV2 := Lib.hid (RunsAt.kept HV2.out hb); replace HB := Lib.hid (bch' HB.out hb); clear hb; obtain ⟨k0, k1, k2, kf0, kf1, kf2⟩ := HK.out.c3) | (with_reducible refine ((HR2.out _ HN.out).mono ?_); rintro e w' ⟨rfl, hb⟩; replace HK := Lib.hid (HK.out.keep hb); clear k0 k1 k2 kf0 kf1 kf2; replace HN := Lib.hid (RunsAt.kept HN.out hb); replace HI := Lib.hid (IntsAt.below HI.out hb); replace HV1 := Lib.hid (RunsAt.kept HV1.out hb); replace HV2 := Lib.hid (RunsAt.kept HV2.out hb); replace HB := Lib.hid (bch' HB.out hb); clear hb; obtain ⟨k0, k1, k2, kf0, kf1, kf2⟩ := HK.out.c3) | (with_reducible refine ((HQ.out _ _ _ HSA.out _ HV1.out HV2.out).mono ?_); rintro e w' ⟨rfl, hb⟩; replace HK := Lib.hid (HK.out.keep hb); clear k0 k1 k2 kf0 kf1 kf2; replace HN := Lib.hid (RunsAt.kept HN.out hb); replace HI := Lib.hid (IntsAt.below HI.out hb); replace HV1 := Lib.hid (RunsAt.kept HV1.out hb); replace HV2 := Lib.hid (RunsAt.kept HV2.out hb); replace HB := Lib.hid (bch' HB.out hb); clear hb; obtain ⟨k0, k1, k2, kf0, kf1, kf2⟩ := HK.out.c3))
        clear HV1 HV2
        go_upto_region 8 with (first | (with_reducible refine ((HT1.out _ HN.out).mono ?_); rintro e w' ⟨v1, rfl, hg1, hg2, hb⟩; have HV1 := Lib.hid (runs_if hg1 hg2); clear hg1 hg2; replace HK := Lib.hid (HK.out.keep hb); clear k0 k1 k2 kf0 kf1 kf2; replace HN := Lib.hid (RunsAt.kept HN.out hb); replace HI := Lib.hid (IntsAt.below HI.out hb); replace HB := Lib.hid (bch' HB.out hb); clear hb; obtain ⟨k0, k1, k2, kf0, kf1, kf2⟩ := HK.out.c3))
        go_upto_region 9 with (first | (with_reducible refine ((HT2.out _ HN.out).mono ?_); rintro e w' ⟨v2, rfl, hg1, hg2, hb⟩; have HV2 := Lib.hid (runs_if hg1 hg2); clear hg1 hg2; replace HK := Lib.hid (HK.out.keep hb); clear k0 k1 k2 kf0 kf1 kf2; replace HN := Lib.hid (RunsAt.kept HN.out hb); replace HI := Lib.hid (IntsAt.below HI.out hb); replace HV1 := Lib.hid (RunsAt.kept HV1.out hb); replace HB := Lib.hid (bch' HB.out hb); clear hb; obtain ⟨k0, k1, k2, kf0, kf1, kf2⟩ := HK.out.c3))
        go_upto_region 11 with (first | (with_reducible refine ((HQ.out _ _ _ HSB.out _ HV1.out HV2.out).mono ?_); rintro e w' ⟨rfl, hb⟩; replace HK := Lib.hid (HK.out.keep hb); clear k0 k1 k2 kf0 kf1 kf2; replace HN := Lib.hid (RunsAt.kept HN.out hb); replace HI := Lib.hid (IntsAt.below HI.out hb); replace HV1 := Lib.hid (RunsAt.kept HV1.out hb); replace HV2 := Lib.hid (RunsAt.kept HV2.out hb); replace HB := Lib.hid (bch' HB.out hb); clear hb; obtain ⟨k0, k1, k2, kf0, kf1, kf2⟩ := HK.out.c3))
        clear HV1 HV2
        go_upto_region 12 with (first | (with_reducible refine ((HP1.out _ HN.out).mono ?_); rintro e w' ⟨v1, rfl, hg1, hg2, hb⟩; have HV1 := Lib.hid (runs_if hg1 hg2); clear hg1 hg2; replace HK := Lib.hid (HK.out.keep hb); clear k0 k1 k2 kf0 kf1 kf2; replace HN := Lib.hid (RunsAt.kept HN.out hb); replace HI := Lib.hid (IntsAt.below HI.out hb); replace HB := Lib.hid (bch' HB.out hb); clear hb; obtain ⟨k0, k1, k2, kf0, kf1, kf2⟩ := HK.out.c3))
        go_upto_region 13 with (first | (with_reducible refine ((HP2.out _ HN.out).mono ?_); rintro e w' ⟨v2, rfl, hg1, hg2, hb⟩; have HV2 := Lib.hid (runs_if hg1 hg2); clear hg1 hg2; replace HK := Lib.hid (HK.out.keep hb); clear k0 k1 k2 kf0 kf1 kf2; replace HN := Lib.hid (RunsAt.kept HN.out hb); replace HI := Lib.hid (IntsAt.below HI.out hb); replace HV1 := Lib.hid (RunsAt.kept HV1.out hb); replace HB := Lib.hid (bch' HB.out hb); clear hb; obtain ⟨k0, k1, k2, kf0, kf1, kf2⟩ := HK.out.c3))
        go_wp2_with (first | (with_reducible refine ((HQ.out _ _ _ HSC.out _ HV1.out HV2.out).mono ?_); rintro e w' ⟨rfl, hb⟩; replace HK := Lib.hid (HK.out.keep hb); clear k0 k1 k2 kf0 kf1 kf2; replace HN := Lib.hid (RunsAt.kept HN.out hb); replace HI := Lib.hid (IntsAt.below HI.out hb); replace HV1 := Lib.hid (RunsAt.kept HV1.out hb); replace HV2 := Lib.hid (RunsAt.kept HV2.out hb); replace HB := Lib.hid (bch' HB.out hb); clear hb; obtain ⟨k0, k1, k2, kf0, kf1, kf2⟩ := HK.out.c3))
        go_ret
        exact ⟨rfl, HB.out⟩
    · have hl1 : ¬ (8 : Int) < (cs.length : Int) := by omega
      rw [hfb] at HFW
      go_enter Tryz.func3, Tryz.ntmps3
      go_upto_region 3 with (first | (with_reducible refine ((HFW.out _ HN.out).mono ?_); rintro e w' ⟨rfl, rfl⟩))
      go_upto_region 4 with (first | (with_reducible refine ((HS1X.out _ HN.out HI.out).mono ?_); rintro e w' ⟨v1, rfl, hg1, hg2, hb⟩; have HV1 := Lib.hid (runs_if hg1 hg2); clear hg1 hg2; replace HK := Lib.hid (HK.out.keep hb); clear k0 k1 k2 kf0 kf1 kf2; replace HN := Lib.hid (RunsAt.kept HN.out hb); replace HI := Lib.hid (IntsAt.below HI.out hb); replace HB := Lib.hid (bch' HB.out hb); clear hb; obtain ⟨k0, k1, k2, kf0, kf1, kf2⟩ := HK.out.c3))
      go_upto_region 5 with (first | (with_reducible refine ((HS2X.out _ HN.out HI.out).mono ?_); rintro e w' ⟨v2, rfl, hg1, hg2, hb⟩; have HV2 := Lib.hid (runs_if hg1 hg2); clear hg1 hg2; replace HK := Lib.hid (HK.out.keep hb); clear k0 k1 k2 kf0 kf1 kf2; replace HN := Lib.hid (RunsAt.kept HN.out hb); replace HI := Lib.hid (IntsAt.below HI.out hb); replace HV1 := Lib.hid (RunsAt.kept HV1.out hb); replace HB := Lib.hid (bch' HB.out hb); clear hb; obtain ⟨k0, k1, k2, kf0, kf1, kf2⟩ := HK.out.c3))
      go_upto_region 7 with (first | (with_reducible refine ((HAW.out _ (ENV.out.below HB.out)).mono ?_); rintro e w' ⟨rfl, hb⟩; replace HK := Lib.hid (HK.out.keep hb); clear k0 k1 k2 kf0 kf1 kf2; replace HN := Lib.hid (RunsAt.kept HN.out hb); replace HI := Lib.hid (IntsAt.below HI.out hb); replace HV1 := Lib.hid (RunsAt.kept HV1.out hb); replace HV2 := Lib.hid (RunsAt.kept HV2.out hb); replace HB := Lib.hid (bch' HB.out hb); clear hb; obtain ⟨k0, k1, k2, kf0, kf1, kf2⟩ := HK.out.c3) | (with_reducible refine ((HR1.out _ HN.out).mono ?_); rintro e w' ⟨rfl, hb⟩; replace HK := Lib.hid (HK.out.keep hb); clear k0 k1 k2 kf0 kf1 kf2; replace HN := Lib.hid (RunsAt.kept HN.out hb); replace HI := Lib.hid (IntsAt.below HI.out hb); replace HV1 := Lib.hid (RunsAt.kept HV1.out hb); replace HV2 := Lib.hid (RunsAt.kept HV2.out hb); replace HB := Lib.hid (bch' HB.out hb); clear hb; obtain ⟨k0, k1, k2, kf0, kf1, kf2⟩ := HK.out.c3) | (with_reducible refine ((HR2.out _ HN.out).mono ?_); rintro e w' ⟨rfl, hb⟩; replace HK := Lib.hid (HK.out.keep hb); clear k0 k1 k2 kf0 kf1 kf2; replace HN := Lib.hid (RunsAt.kept HN.out hb); replace HI := Lib.hid (IntsAt.below HI.out hb); replace HV1 := Lib.hid (RunsAt.kept HV1.out hb); replace HV2 := Lib.hid (RunsAt.kept HV2.out hb); replace HB := Lib.hid (bch' HB.out hb); clear hb; obtain ⟨k0, k1, k2, kf0, kf1, kf2⟩ := HK.out.c3) | (with_reducible refine ((HQ.out _ _ _ HSA.out _ HV1.out HV2.out).mono ?_); rintro e w' ⟨rfl, hb⟩; replace HK := Lib.hid (HK.out.keep hb); clear k0 k1 k2 kf0 kf1 kf2; replace HN := Lib.hid (RunsAt.kept HN.out hb); replace HI := Lib.hid (IntsAt.below HI.out hb); replace HV1 := Lib.hid (RunsAt.kept HV1.out hb); replace HV2 := Lib.hid (RunsAt.kept HV2.out hb); replace HB := Lib.hid (bch' HB.out hb); clear hb; obtain ⟨k0, k1, k2, kf0, kf1, kf2⟩ := HK.out.c3))
      clear HV1 HV2
      go_upto_region 8 with (first | (with_reducible refine ((HT1.out _ HN.out).mono ?_); rintro e w' ⟨v1, rfl, hg1, hg2, hb⟩; have HV1 := Lib.hid (runs_if hg1 hg2); clear hg1 hg2; replace HK := Lib.hid (HK.out.keep hb); clear k0 k1 k2 kf0 kf1 kf2; replace HN := Lib.hid (RunsAt.kept HN.out hb); replace HI := Lib.hid (IntsAt.below HI.out hb); replace HB := Lib.hid (bch' HB.out hb); clear hb; obtain ⟨k0, k1, k2, kf0, kf1, kf2⟩ := HK.out.c3))
      go_upto_region 9 with (first | (with_reducible refine ((HT2.out _ HN.out).mono ?_); rintro e w' ⟨v2, rfl, hg1, hg2, hb⟩; have HV2 := Lib.hid (runs_if hg1 hg2); clear hg1 hg2; replace HK := Lib.hid (HK.out.keep hb); clear k0 k1 k2 kf0 kf1 kf2; replace HN := Lib.hid (RunsAt.kept HN.out hb); replace HI := Lib.hid (IntsAt.below HI.out hb); replace HV1 := Lib.hid (RunsAt.kept HV1.out hb); replace HB := Lib.hid (bch' HB.out hb); clear hb; obtain ⟨k0, k1, k2, kf0, kf1, kf2⟩ := HK.out.c3))
      go_upto_region 11 with (first | (with_reducible refine ((HQ.out _ _ _ HSB.out _ HV1.out HV2.out).mono ?_); rintro e w' ⟨rfl, hb⟩; replace HK := Lib.hid (HK.out.keep hb); clear k0 k1 k2 kf0 kf1 kf2; replace HN := Lib.hid (RunsAt.kept HN.out hb); replace HI := Lib.hid (IntsAt.below HI.out hb); replace HV1 := Lib.hid (RunsAt.kept HV1.out hb); replace HV2 := Lib.hid (RunsAt.kept HV2.out hb); replace HB := Lib.hid (bch' HB.out hb); clear hb; obtain ⟨k0, k1, k2, kf0, kf1, kf2⟩ := HK.out.c3))
      clear HV1 HV2
      go_upto_region 12 with (first | (with_reducible refine ((HP1.out _ HN.out).mono ?_); rintro e w' ⟨v1, rfl, hg1, hg2, hb⟩; have HV1 := Lib.hid (runs_if hg1 hg2); clear hg1 hg2; replace HK := Lib.hid (HK.out.keep hb); clear k0 k1 k2 kf0 kf1 kf2; replace HN := Lib.hid (RunsAt.kept HN.out hb); replace HI := Lib.hid (IntsAt.below HI.out hb); replace HB := Lib.hid (bch' HB.out hb); clear hb; obtain ⟨k0, k1, k2, kf0, kf1, kf2⟩ := HK.out.c3))
      go_upto_region 13 with (first | (with_reducible refine ((HP2.out _ HN.out).mono ?_); rintro e w' ⟨v2, rfl, hg1, hg2, hb⟩; have HV2 := Lib.hid (runs_if hg1 hg2); clear hg1 hg2; replace HK := Lib.hid (HK.out.keep hb); clear k0 k1 k2 kf0 kf1 kf2; replace HN := Lib.hid (RunsAt.kept HN.out hb); replace HI := Lib.hid (IntsAt.below HI.out hb); replace HV1 := Lib.hid (RunsAt.kept HV1.out hb); replace HB := Lib.hid (bch' HB.out hb); clear hb; obtain ⟨k0, k1, k2, kf0, kf1, kf2⟩ := HK.out.c3))
      go_wp2_with (first | (with_reducible refine ((HQ.out _ _ _ HSC.out _ HV1.out HV2.out).mono ?_); rintro e w' ⟨rfl, hb⟩; replace HK := Lib.hid (HK.out.keep hb); clear k0 k1 k2 kf0 kf1 kf2; replace HN := Lib.hid (RunsAt.kept HN.out hb); replace HI := Lib.hid (IntsAt.below HI.out hb); replace HV1 := Lib.hid (RunsAt.kept HV1.out hb); replace HV2 := Lib.hid (RunsAt.kept HV2.out hb); replace HB := Lib.hid (bch' HB.out hb); clear hb; obtain ⟨k0, k1, k2, kf0, kf1, kf2⟩ := HK.out.c3))
      go_ret
      exact ⟨rfl, HB.out⟩
  · have hff : fewB 0 R = false := by simpa using hfb
    rw [hff] at HFW
    go_enter Tryz.func3, Tryz.ntmps3
    go_wp2_with (first | (with_reducible refine ((HFW.out _ HN.out).mono ?_); rintro e w' ⟨rfl, rfl⟩) | (with_reducible refine ((HAW.out _ (ENV.out.below HB.out)).mono ?_); rintro e w' ⟨rfl, hb⟩; replace HK := Lib.hid (HK.out.keep hb); clear k0 k1 k2 kf0 kf1 kf2; replace HN := Lib.hid (RunsAt.kept HN.out hb); replace HI := Lib.hid (IntsAt.below HI.out hb); replace HB := Lib.hid (bch' HB.out hb); clear hb; obtain ⟨k0, k1, k2, kf0, kf1, kf2⟩ := HK.out.c3))
    go_ret
    exact ⟨rfl, HB.out⟩
end Go.Proofs.YtbeojahilbglcaaGreatDoor
namespace Go.Proofs.YtbeojahilbglcaaGreatDoor
open Go.ChangeShapes Go.WideShapes Go.ChangeAt Go.RowKit Go.Joins Go.Shelf Lum

set_option maxRecDepth 100000 in
theorem open_slok {H : Type} {enc : TypeId × Value → H} {W : World} {r : Reach} {b0 base : Nat} {spare : Nat → Bool} {held : Bool} {v : Value} {d : DataW H} {p : List MemPlace} (hv : Value.okWide Tryz.prog W r b0 22 v) (h : DataW.Trod enc Tryz.prog W base spare held 22 v d p) : SlOk v := by
  obtain ⟨a0, len, cap, rfl⟩ := okWide_slice Tryz.underlying22 hv
  obtain ⟨fuel, hf⟩ := h
  rcases Go.Deep.open_slice Tryz.underlying22 hf with ⟨h1, -⟩ | ⟨a, len', cap', m, n, D, Pl, h1, hb, hl, -⟩
  · have h9 : Value.slice a0 len cap = .slice none 0 0 := (List.cons.inj h1).1
    rw [h9]
    exact ⟨none, 0, 0, rfl, Nat.le_refl _, fun _ => rfl⟩
  · have h9 : Value.slice a0 len cap = .slice (some a) len' cap' := (List.cons.inj h1).1
    rw [h9]
    exact ⟨some a, len', cap', rfl, hl, fun h => by cases h⟩
theorem bytes_int : Tryz.prog.bytesOf 3 = 8 := by kernel_rfl
set_option maxRecDepth 100000 in
theorem ints_reach {H : Type} {enc : TypeId × Value → H} {W : World} {r : Reach} {b0 base : Nat} {spare : Nat → Bool} {held : Bool} {d : DataW H} {p : List MemPlace} {ts : List TypeId} {ds : List (DataW H)} {j : Nat} {q : Option Addr} {n c : Nat} (hsz : (DataW.weightsEach Tryz.prog ts ds).all (· ≤ reachBytes) = true)
    (hv : Value.okWide Tryz.prog W r b0 25 (.slice q n c)) (h : DataW.Trod enc Tryz.prog W base spare held 25 (.slice q n c) d p) (ht : ts[j]? = some 25) (hd : ds[j]? = some d) : n ≤ 17592186044416 := by
  obtain ⟨fuel, hf⟩ := h
  rcases Go.Deep.open_slice Tryz.underlying25 hf with ⟨h1, -⟩ | ⟨a, len', cap', m, n', D, Pl, h1, hb, hl, -, -, h2, -⟩
  · have h9 : Value.slice q n c = .slice none 0 0 := (List.cons.inj h1).1
    injection h9 with e1 e2 e3
    omega
  · have h9 : Value.slice q n c = .slice (some a) len' cap' := (List.cons.inj h1).1
    injection h9 with e1 e2 e3
    have e4 := (Prod.mk.inj h2).1
    rw [e4] at hd
    have := sized_slice hsz ht hd Tryz.underlying25
    rw [bytes_int, List.length_map, List.length_range] at this
    unfold reachBytes at this
    omega
end Go.Proofs.YtbeojahilbglcaaGreatDoor
