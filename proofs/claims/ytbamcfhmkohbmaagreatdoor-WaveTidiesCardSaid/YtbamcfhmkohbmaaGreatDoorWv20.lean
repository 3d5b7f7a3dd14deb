/-
  The law WaveTidies: the walk.
-/
import Derived.Test.YtbamcfhmkohbmaaGreatDoorWv19
import Derived.Test.YtbamcfhmkohbmaaGreatDoorQq
set_option linter.unusedVariables false
set_option linter.unusedSimpArgs false
namespace Lum
open Go Go.RowKit Go.Shelf
open Go.Lib (decDigits itoa)
theorem pts_form {W : World} {v : Value} {l : List (Int × Int)} (h : PtsAt W v l) (hn : l ≠ []) : ∃ b o c, v = .slice (some ⟨b, o, none⟩) l.length c := by
  obtain ⟨p, c, rfl, h⟩ := h
  obtain ⟨b, o, rfl, _, _⟩ := h hn
  exact ⟨b, o, c, rfl⟩
theorem pts_here {W : World} {b o n c : Nat} {l : List (Int × Int)} (h : PtsAt W (.slice (some ⟨b, o, none⟩) n c) l) (hn : l ≠ []) : b < W.heap.size ∧ PtC W b o l := by
  obtain ⟨b', o', e, h1, h2⟩ := h.opn.2 hn
  injection e with e
  injection e with e1 e2
  subst e1 e2
  exact ⟨h1, h2⟩
theorem wpQuiet_skipU {P : Program} {ops : Array Oper} {C : World → Prop} {Q : Act → Prop} {a : Act} {o : Oper} {rest : List Oper} (hw : Region.wanted o (yielded ops a.tmps) = false)
    (h : ∀ u : Value, ∀ K : Act → Prop, (∀ a, wpQuiet P ops C Q rest a → K a) → K (a.put o.dst u)) : wpQuiet P ops C Q (o :: rest) a := by
  unfold wpQuiet
  rw [hw, if_neg (by simp)]
  exact h _ _ (fun _ h => h)
theorem wpQuiet_skipV {P : Program} {ops : Array Oper} {C : World → Prop} {Q : Act → Prop} {a : Act} {o : Oper} {rest : List Oper} (j d : Nat) (b c : Bool) (hg : o.guard = some (j, b)) (hd : (ops.toList[j]?).bind (·.dst) = some d)
    (ht : a.tmps.toList[d]? = some (.bool c)) (hc : (c == b) = false) (h : ∀ u : Value, ∀ K : Act → Prop, (∀ a, wpQuiet P ops C Q rest a → K a) → K (a.put o.dst u)) : wpQuiet P ops C Q (o :: rest) a := by
  refine wpQuiet_skipU ?_ h
  have hy : yielded ops a.tmps j = some c := by
    unfold yielded
    rw [← Array.getElem?_toList, hd]
    simp only [Option.bind_some]
    rw [← Array.getElem?_toList, ht]
  unfold Region.wanted
  rw [hg]
  simp only [hy]
  simpa using hc
theorem meanW_tid (l : List (Int × Int)) (n : Nat) : meanW (tidF n 1 l) = meanW l := by unfold meanW; rw [tidF_area _ _ _ (Nat.le_refl _)]
theorem pt_mem {l : List (Int × Int)} {k : Nat} (h : k < l.length) : (pX l k, pY l k) ∈ l := by rw [← pt_at h]; exact List.getElem_mem h
end Lum
namespace Go.Proofs.YtbamcfhmkohbmaaGreatDoor
open Go.RowKit Go.Shelf Lum
open Go.Lib (decDigits itoa)
attribute [local go_sem] bs_get bs_extract_end bs_extract_from bs_extract bs_append

set_option maxRecDepth 100000 in
set_option maxHeartbeats 16000000 in
theorem law_tidies (l : List (Int × Int)) (v : Value) (x : Txt) (w : World) (hv : PtsAt w v l) (hx : x.length ≤ 9223372036854775807) (env : Env w) :
    Calls Tryz.prog 3 #[v, .string ⟨(x).toArray⟩] w fun e w' => e = .returned (.bool (true)) ∧ Below w.heap.size w w' := by
  have ENV := Lib.hid env; clear env
  have HB := Lib.hid (Below.refl w.heap.size w)
  have HV := Lib.hid hv
  have haw := fun W (e : Env W) => law27_awake W e
  have HAW := Lib.hid haw; clear haw
  by_cases hk : ¬ (wvE l = 0 ∧ x.length ≤ 120 ∧ ratCheck x = 0)
  · have hr := law27_right_no l v x w hv hx hk
    have HR := Lib.hid hr; clear hr hk
    obtain ⟨p, c, rfl, -⟩ := hv
    go_enter Tryz.func3, Tryz.ntmps3
    go_wp2_with (first | (with_reducible refine ((HR.out).mono ?_); rintro e w' ⟨rfl, hb⟩; replace HV := Lib.hid (PtsAt.below HV.out hb); replace HB := Lib.hid (bch' HB.out hb); clear hb) | (with_reducible refine ((HAW.out _ (ENV.out.below HB.out)).mono ?_); rintro e w' ⟨rfl, hb⟩; replace HB := Lib.hid (bch' HB.out hb); clear hb))
    go_ret
    exact ⟨rfl, HB.out⟩
  have hk2 := Decidable.not_not.1 hk
  clear hk
  obtain ⟨k1, k2, k3⟩ := hk2
  have hr := law27_right_ok l v x w hv hx k1 k2 k3
  have wv := wvE_zero k1
  obtain ⟨q, rfl, -⟩ := ratCheck_zero x k3
  have fq := (fits_of_len k2).mono (show 121 ≤ 400 by omega)
  have hhi := wv.hi
  have hlo := wv.lo
  have hl : l.length ≤ 1000000000 := by omega
  have hne : l ≠ [] := fun h => by subst h; simp at hlo
  obtain ⟨wt, ht, hsub⟩ := tidF_wv l.length 1 wv (Nat.le_refl _)
  have kt := wvE_of_wv wt
  have hlt := Nat.le_trans (tidF_len l.length 1 l) hl
  have htl := wt.lo
  have hth := wt.hi
  have hnt : tidF l.length 1 l ≠ [] := fun h => by rw [h] at htl; simp at htl
  have hns := tidF_none l.length 1 wv.rise (Nat.le_refl _) (by omega) (fun j h1 h2 _ => by omega)
  obtain ⟨p, c, rfl, -⟩ := hv
  obtain ⟨V, hV⟩ : ∃ V, V = Value.slice p l.length c := ⟨_, rfl⟩
  rw [← hV] at HV hr ⊢
  clear hV
  have a1 := fun W (h : PtsAt W V l) => own_tidy_ok l _ W h hl k1
  have b1 := fun W (e : Env W) (h : PtsAt W V l) => own_at_ok l _ q W h hl k1 fq e
  have b2 := fun W u (e : Env W) (h : PtsAt W u (tidF l.length 1 l)) => own_at_ok (tidF l.length 1 l) u q W h hlt kt fq e
  rw [ht q] at b2
  have m1 := fun W (e : Env W) (h : PtsAt W V l) => own_mean_ok l _ W h hl k1 e
  have m2 := fun W u (e : Env W) (h : PtsAt W u (tidF l.length 1 l)) => own_mean_ok (tidF l.length 1 l) u W h hlt kt e
  rw [meanW_tid] at m2
  have HNT := Lib.hid hnt; have HNE := Lib.hid hne; have HLL := Lib.hid hl; have HNS := Lib.hid hns; have HSUB := Lib.hid hsub; have WT := Lib.hid wt
  clear fq k1 k2 k3 kt hl hlt hlo hhi hx hne hnt hns hsub wt ht wv
  generalize showR (hgtW l q) = tH at *
  generalize showR (meanW l) = tM at *
  generalize showR q = tq at *
  have HR := Lib.hid hr; clear hr
  have A1 := Lib.hid a1; clear a1
  have B1 := Lib.hid b1; clear b1
  have B2 := Lib.hid b2; clear b2
  have M1 := Lib.hid m1; clear m1
  have M2 := Lib.hid m2; clear m2
  obtain ⟨N, hN⟩ : ∃ N, N = (tidF l.length 1 l).length := ⟨_, rfl⟩
  have HN := Lib.hid hN
  have HNB : Hid (N ≤ 16) := by rw [Hid, hN]; exact hth
  clear hN htl hth
  go_enter Tryz.func3, Tryz.ntmps3
  go_wp2_with (first | (with_reducible refine ((HR.out).mono ?_); rintro e w' ⟨rfl, hb⟩; replace HV := Lib.hid (PtsAt.below HV.out hb); replace HB := Lib.hid (bch' HB.out hb); clear hb) | (with_reducible refine ((A1.out _ HV.out).mono ?_); rintro e w' ⟨v1, rfl, hp, hb⟩; obtain ⟨b1, o1, c1, rfl⟩ := pts_form hp HNT.out; rw [← HN.out] at hp ⊢; replace HV := Lib.hid (PtsAt.below HV.out hb); have P1 := Lib.hid hp; clear hp; replace HB := Lib.hid (bch' HB.out hb); clear hb) | (with_reducible refine ((B1.out _ (ENV.out.below HB.out) HV.out).mono ?_); rintro e w' ⟨rfl, hb⟩; replace HV := Lib.hid (PtsAt.below HV.out hb); replace P1 := Lib.hid (PtsAt.below P1.out hb); replace HB := Lib.hid (bch' HB.out hb); clear hb) | (with_reducible refine ((B2.out _ _ (ENV.out.below HB.out) P1.out).mono ?_); rintro e w' ⟨rfl, hb⟩; replace HV := Lib.hid (PtsAt.below HV.out hb); replace P1 := Lib.hid (PtsAt.below P1.out hb); replace HB := Lib.hid (bch' HB.out hb); clear hb) | (with_reducible refine ((M1.out _ (ENV.out.below HB.out) HV.out).mono ?_); rintro e w' ⟨rfl, hb⟩; replace HV := Lib.hid (PtsAt.below HV.out hb); replace P1 := Lib.hid (PtsAt.below P1.out hb); replace HB := Lib.hid (bch' HB.out hb); clear hb) | (with_reducible refine ((M2.out _ _ (ENV.out.below HB.out) P1.out).mono ?_); rintro e w' ⟨rfl, hb⟩; replace HV := Lib.hid (PtsAt.below HV.out hb); replace P1 := Lib.hid (PtsAt.below P1.out hb); replace HB := Lib.hid (bch' HB.out hb); clear hb))
  skip
  go_loopw [71] (fun i wr => ∃ k : Nat, i = .int .i64 (k : Int) ∧ k ≤ N ∧ Hid (Below w.heap.size w wr) ∧ Hid (PtsAt wr V l) ∧ Hid (PtsAt wr (.slice (some ⟨b1, o1, none⟩) N c1) (tidF l.length 1 l))) (fun i _ => N - (intOf i).toNat)
  case atStart => exact ⟨0, rfl, by omega, HB, HV, P1⟩
  case round =>
    obtain ⟨k, rfl, hk, HB2, HV2, P2⟩ := hrel
    clear HB HV P1
    have HB := HB2; have HV := HV2; have P1 := P2; clear HB2 HV2 P2
    by_cases hlt : k < N
    · have hlt1 : (k : Int) < (N : Int) := by omega
      have hkT : k < (tidF l.length 1 l).length := by rw [← HN.out]; exact hlt
      obtain ⟨hb1, hc1⟩ := pts_here P1.out HNT.out
      obtain ⟨x1, y1⟩ := hc1 k hkT
      have hmem := HSUB.out _ (pt_mem hkT)
      have hct := fun W (h : PtsAt W V l) => pt_contains l V (pX (tidF l.length 1 l) k) (pY (tidF l.length 1 l) k) W h HLL.out HNE.out
      rw [decide_eq_true hmem] at hct
      have HCT := Lib.hid hct; clear hct hmem
      have hun : IntKind.i64.wrap ((k : Int) + 1) = (k : Int) + 1 := IntWalk.i64_in _ (by have := HNB.out; omega)
      have hbr : b1 < wr.heap.size := hb1
      have hr1 := WT.out.range hkT
      have hh1 := WT.out.h k hkT
      have hK := Blk.new wr 33 #[.int .i64 (pX (tidF l.length 1 l) k), .int .i64 (pY (tidF l.length 1 l) k)]
      have hal := (Below.refl wr.heap.size wr).alloc (Nat.le_refl _) (.cells #[.int .i64 (pX (tidF l.length 1 l) k), .int .i64 (pY (tidF l.length 1 l) k)] 33)
      have HV3 := Lib.hid (PtsAt.below HV.out hal); have P3 := Lib.hid (PtsAt.below P1.out hal); have HB3 := Lib.hid (bch' HB.out hal)
      clear HB HV P1 hal
      have HB := HB3; have HV := HV3; have P1 := P3; clear HB3 HV3 P3
      have HK := Lib.hid hK; clear hK
      by_cases hin : 0 < k ∧ k + 1 < N
      · obtain ⟨hk0, hk1⟩ := hin
        have hkT1 : k + 1 < (tidF l.length 1 l).length := by rw [← HN.out]; exact hk1
        have hg0 : (0 : Int) < (k : Int) := by omega
        have hg0d : decide (0 < k) = true := decide_eq_true hk0
        have hg1 : (k : Int) + 1 < (N : Int) := by omega
        have hg1d : decide ((k : Int) + 1 < (N : Int)) = true := decide_eq_true hg1
        have hg1e : decide (k + 1 < N) = true := decide_eq_true hk1
        have hm1 : IntKind.i64.wrap ((k : Int) - 1) = ((k - 1 : Nat) : Int) := by rw [IntWalk.i64_in _ (by have := HNB.out; omega)]; omega
        have hp0 : (0 : Int) ≤ (k : Int) + 1 := by omega
        have hpt : ((k : Int) + 1).toNat = k + 1 := by omega
        have hi1 : k - 1 < N := by omega
        obtain ⟨_, hcB⟩ := pts_here P1.out HNT.out
        obtain ⟨q1, q2⟩ := hcB (k - 1) (by omega)
        obtain ⟨q3, q4⟩ := hcB (k + 1) hkT1
        clear hcB hc1
        have r0 := WT.out.range (show k - 1 < (tidF l.length 1 l).length by omega)
        have r2 := WT.out.range hkT1
        have h0 := WT.out.h (k - 1) (by omega)
        have h2 := WT.out.h (k + 1) hkT1
        have s1 := WT.out.s (k - 1) (by omega)
        rw [show k - 1 + 1 = k by omega] at s1
        have s2 := WT.out.s k hkT1
        have hst := HNS.out k hk0 hkT1
        have hst2 : ¬ ((pY (tidF l.length 1 l) k - pY (tidF l.length 1 l) (k - 1)) * (pX (tidF l.length 1 l) (k + 1) - pX (tidF l.length 1 l) (k - 1)) = (pY (tidF l.length 1 l) (k + 1) - pY (tidF l.length 1 l) (k - 1)) * (pX (tidF l.length 1 l) k - pX (tidF l.length 1 l) (k - 1))) := fun h => by rw [show strtAt (tidF l.length 1 l) k = decide _ from rfl] at hst; exact absurd (decide_eq_true h) (by rw [show decide ((pY (tidF l.length 1 l) k - pY (tidF l.length 1 l) (k - 1)) * (pX (tidF l.length 1 l) (k + 1) - pX (tidF l.length 1 l) (k - 1)) = (pY (tidF l.length 1 l) (k + 1) - pY (tidF l.length 1 l) (k - 1)) * (pX (tidF l.length 1 l) k - pX (tidF l.length 1 l) (k - 1))) = false from hst]; simp)
        clear hst
        generalize pX (tidF l.length 1 l) (k - 1) = X0 at *
        generalize pY (tidF l.length 1 l) (k - 1) = Y0 at *
        generalize pX (tidF l.length 1 l) (k + 1) = X2 at *
        generalize pY (tidF l.length 1 l) (k + 1) = Y2 at *
        generalize pX (tidF l.length 1 l) k = X1 at *
        generalize pY (tidF l.length 1 l) k = Y1 at *
        obtain ⟨m1, m2⟩ := mul_2m (a := Y1 - Y0) (b := X2 - X0) (by omega) (by omega) (by omega) (by omega)
        obtain ⟨m3, m4⟩ := mul_2m (a := Y2 - Y0) (b := X1 - X0) (by omega) (by omega) (by omega) (by omega)
        have v1 : IntKind.i64.wrap (Y1 - Y0) = Y1 - Y0 := IntWalk.i64_in _ (by omega)
        have v2 : IntKind.i64.wrap (X2 - X0) = X2 - X0 := IntWalk.i64_in _ (by omega)
        have v3 : IntKind.i64.wrap ((Y1 - Y0) * (X2 - X0)) = (Y1 - Y0) * (X2 - X0) := IntWalk.i64_in _ (by omega)
        have v4 : IntKind.i64.wrap (Y2 - Y0) = Y2 - Y0 := IntWalk.i64_in _ (by omega)
        have v5 : IntKind.i64.wrap (X1 - X0) = X1 - X0 := IntWalk.i64_in _ (by omega)
        have v6 : IntKind.i64.wrap ((Y2 - Y0) * (X1 - X0)) = (Y2 - Y0) * (X1 - X0) := IntWalk.i64_in _ (by omega)
        have hsb : (((Y1 - Y0) * (X2 - X0) : Int) == (Y2 - Y0) * (X1 - X0)) = false := by simpa using hst2
        clear hst2 m1 m2 m3 m4 r0 r2 h0 h2 s1 s2 hr1 hh1
        have Q1 := Lib.hid q1; have Q2 := Lib.hid q2; have Q3 := Lib.hid q3; have Q4 := Lib.hid q4; clear q1 q2 q3 q4
        go_wp2
        obtain ⟨wB, hwB⟩ : ∃ wB, wB = wr.alloc (.cells #[.int .i64 X1, .int .i64 Y1] 33) := ⟨_, rfl⟩
        rw [← hwB] at HK HV P1 HB Q1 Q2 Q3 Q4 ⊢
        have hbB : b1 < wB.heap.size := by rw [hwB]; simp; omega
        clear hwB x1 y1
        have f0 : ∀ p : BelowOf wB, p.w.cell? ⟨wr.heap.size, 0, none⟩ = some (.int .i64 X1) := BelowOf.cell HK.out.lt HK.out.c2.1
        have f1 : ∀ p : BelowOf wB, p.w.cell? ⟨wr.heap.size, 1, none⟩ = some (.int .i64 Y1) := BelowOf.cell HK.out.lt HK.out.c2.2.1
        have f2 : ∀ p : BelowOf wB, p.w.cell? ⟨b1, o1 + (k - 1) * 2, none⟩ = some (.int .i64 X0) := BelowOf.cell hbB Q1.out
        have f3 : ∀ p : BelowOf wB, p.w.cell? ⟨b1, o1 + (k - 1) * 2 + 1, none⟩ = some (.int .i64 Y0) := BelowOf.cell hbB Q2.out
        have f4 : ∀ p : BelowOf wB, p.w.cell? ⟨b1, o1 + (k + 1) * 2, none⟩ = some (.int .i64 X2) := BelowOf.cell hbB Q3.out
        have f5 : ∀ p : BelowOf wB, p.w.cell? ⟨b1, o1 + (k + 1) * 2 + 1, none⟩ = some (.int .i64 Y2) := BelowOf.cell hbB Q4.out
        refine wp_region_WQ (by kernel_rfl) (by kernel_rfl) ?_
        repeat (refine WQ.step (fun K hK => ?_); go_simp; first | (refine hK.out _ ?_; clear hK K) | (apply Exists.intro; refine ⟨fun _ => ?_, hK.out _ ?_⟩; (first | rfl | (go_at_call 19; exact calls_below_of _ (HCT.out _ (PtsAt.below HV.out (BelowOf.h _))))); clear hK K))
        refine WQ.nil ?_
        intro _ hw'
        obtain ⟨⟨w4, hb4⟩, hw2⟩ := hw'
        subst hw2
        have HW4 := Lib.hid hb4
        clear hb4
        clear f0 f1 f2 f3 f4 f5
        go_wp2
        go_roundw
        case rel => exact ⟨k + 1, by first | rfl | simp, by omega, Lib.hid (bch' HB.out HW4.out), Lib.hid (PtsAt.below HV.out HW4.out), Lib.hid (PtsAt.below P1.out HW4.out)⟩
        case measure => first | (simp [intOf]; done) | (simp [intOf]; omega)
      · clear hc1 hr1 hh1
        generalize pX (tidF l.length 1 l) k = X1 at *
        generalize pY (tidF l.length 1 l) k = Y1 at *
        have hkk : k = 0 ∨ (0 < k ∧ ¬ k + 1 < N) := by omega
        clear hin
        rcases hkk with rfl | ⟨hk0, hk1⟩
        · simp only [Nat.zero_mul, Nat.add_zero] at x1 y1
          go_wp2
          obtain ⟨wB, hwB⟩ : ∃ wB, wB = wr.alloc (.cells #[.int .i64 X1, .int .i64 Y1] 33) := ⟨_, rfl⟩
          rw [← hwB] at HK HV P1 HB ⊢
          clear hwB x1 y1
          have f0 : ∀ p : BelowOf wB, p.w.cell? ⟨wr.heap.size, 0, none⟩ = some (.int .i64 X1) := BelowOf.cell HK.out.lt HK.out.c2.1
          have f1 : ∀ p : BelowOf wB, p.w.cell? ⟨wr.heap.size, 1, none⟩ = some (.int .i64 Y1) := BelowOf.cell HK.out.lt HK.out.c2.2.1
          refine wp_region_WQ (by kernel_rfl) (by kernel_rfl) ?_
          repeat (refine WQ.step (fun K hK => ?_); go_simp; first | (refine hK.out _ ?_; clear hK K) | (apply Exists.intro; refine ⟨fun _ => ?_, hK.out _ ?_⟩; (first | rfl | (go_at_call 19; exact calls_below_of _ (HCT.out _ (PtsAt.below HV.out (BelowOf.h _))))); clear hK K))
          refine WQ.nil ?_
          intro _ hw'
          obtain ⟨⟨w4, hb4⟩, hw2⟩ := hw'
          subst hw2
          have HW4 := Lib.hid hb4
          clear hb4
          clear f0 f1
          go_wp2
          go_roundw
          case rel => exact ⟨1, by first | rfl | simp, by omega, Lib.hid (bch' HB.out HW4.out), Lib.hid (PtsAt.below HV.out HW4.out), Lib.hid (PtsAt.below P1.out HW4.out)⟩
          case measure => first | (simp [intOf]; done) | (simp [intOf]; omega)
        · have hg0 : (0 : Int) < (k : Int) := by omega
          have hg0d : decide (0 < k) = true := decide_eq_true hk0
          have hg1 : decide ((k : Int) + 1 < (N : Int)) = false := decide_eq_false (by omega)
          have hg1d : decide (k + 1 < N) = false := decide_eq_false hk1
          clear hk1
          go_wp2
          obtain ⟨wB, hwB⟩ : ∃ wB, wB = wr.alloc (.cells #[.int .i64 X1, .int .i64 Y1] 33) := ⟨_, rfl⟩
          rw [← hwB] at HK HV P1 HB ⊢
          clear hwB x1 y1
          have f0 : ∀ p : BelowOf wB, p.w.cell? ⟨wr.heap.size, 0, none⟩ = some (.int .i64 X1) := BelowOf.cell HK.out.lt HK.out.c2.1
          have f1 : ∀ p : BelowOf wB, p.w.cell? ⟨wr.heap.size, 1, none⟩ = some (.int .i64 Y1) := BelowOf.cell HK.out.lt HK.out.c2.2.1
          refine wp_region_WQ (by kernel_rfl) (by kernel_rfl) ?_
          repeat (refine WQ.step (fun K hK => ?_); go_simp; first | (refine hK.out _ ?_; clear hK K) | (apply Exists.intro; refine ⟨fun _ => ?_, hK.out _ ?_⟩; (first | rfl | (go_at_call 19; exact calls_below_of _ (HCT.out _ (PtsAt.below HV.out (BelowOf.h _))))); clear hK K))
          refine WQ.nil ?_
          intro _ hw'
          obtain ⟨⟨w4, hb4⟩, hw2⟩ := hw'
          subst hw2
          have HW4 := Lib.hid hb4
          clear hb4
          clear f0 f1
          go_wp2
          go_roundw
          case rel => exact ⟨k + 1, by first | rfl | simp, by omega, Lib.hid (bch' HB.out HW4.out), Lib.hid (PtsAt.below HV.out HW4.out), Lib.hid (PtsAt.below P1.out HW4.out)⟩
          case measure => first | (simp [intOf]; done) | (simp [intOf]; omega)
    · have hlt1 : ¬ (k : Int) < (N : Int) := by omega
      go_wp2_with (first | (with_reducible refine ((HAW.out _ (ENV.out.below HB.out)).mono ?_); rintro e w' ⟨rfl, hb⟩; replace HB := Lib.hid (bch' HB.out hb); clear hb))
      go_ret
      exact ⟨rfl, HB.out⟩
end Go.Proofs.YtbamcfhmkohbmaaGreatDoor
