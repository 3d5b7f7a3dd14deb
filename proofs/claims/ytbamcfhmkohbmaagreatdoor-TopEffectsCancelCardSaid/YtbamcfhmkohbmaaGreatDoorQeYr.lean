/-
  Reference of layer 23: Reading, Time, Check, moment, Shown, At, Fresh, New. Reference clock: Moved, Move, Turned, Pause, Resume, Reverse. Reference clock: Turned, Pause, Resume, Reverse, Rate, Back (by gencr3.py). Reference clock: Rate. Effects: the reference: Effect, Check, Place, Find, Moved, Offset. Effects: the reference: channels, Run, Runs, Running. Further parts.
-/
import Derived.Test.YtbamcfhmkohbmaaGreatDoorQeYg
set_option linter.unusedVariables false
set_option linter.unusedSimpArgs false
namespace Lum
open Go Go.RowKit Go.Shelf
open Go.Lib (decDigits itoa)
theorem inI_get {l : List Int} {i : Nat} (h : i < l.length) : l[i]'h = inI l i := by unfold inI; rw [List.getElem?_eq_getElem h]; rfl
theorem has_take {l : List Int} {i k : Nat} (hk : k < i) (hi : i < l.length) (h : inI l k = inI l i) : (l.take i).contains (inI l i) = true := by
  rw [List.contains_iff_mem]
  have hk2 : k < (l.take i).length := by rw [List.length_take]; omega
  have : (l.take i)[k]'hk2 = inI l i := by rw [List.getElem_take, inI_get (by omega)]; exact h
  rw [← this]; exact List.getElem_mem hk2
theorem no_take {l : List Int} {i : Nat} (hi : i < l.length) (h : ∀ k, k < i → inI l k ≠ inI l i) : (l.take i).contains (inI l i) = false := by
  cases hc : (l.take i).contains (inI l i) with
  | false => rfl
  | true =>
    rw [List.contains_iff_mem] at hc
    obtain ⟨k, hk, e⟩ := List.getElem_of_mem hc
    rw [List.length_take] at hk
    rw [List.getElem_take, inI_get (by omega)] at e
    exact absurd e (h k (by omega))
end Lum
namespace Go.Proofs.YtbamcfhmkohbmaaGreatDoor
open Go.RowKit Go.Shelf Lum
open Go.Lib (decDigits itoa)
attribute [local go_sem] bs_get bs_extract_end bs_extract_from bs_extract bs_append

set_option maxHeartbeats 400000 in
theorem r23_time (n : Int) (w : World) : Calls Tryz.prog 127 #[.int .i64 n] w fun e w' => e = .returned (.bool (wiB n 0 10000000)) ∧ w = w' := by
  by_cases h1 : 0 ≤ n
  · by_cases h2 : n ≤ 10000000
    all_goals
      go_enter Tryz.func127, Tryz.ntmps127
      go_wp2
      go_ret
      exact ⟨ret_bool (by unfold wiB; simp [h1, h2]), rfl⟩
  · go_enter Tryz.func127, Tryz.ntmps127
    go_wp2
    go_ret
    exact ⟨ret_bool (by unfold wiB; simp; omega), rfl⟩
set_option maxHeartbeats 2000000 in
theorem r23_check (E R D L : Int) (w : World) : Calls Tryz.prog 95 #[.agg #[.int .i64 E, .int .i64 R, .int .i64 D, .int .i64 L]] w fun e w' => e = .returned (.int .i64 (ckE E R D L)) ∧ Below w.heap.size w w' := by
  have hB := (Below.refl w.heap.size w).alloc (Nat.le_refl _) (.cells #[.int .i64 E, .int .i64 R, .int .i64 D, .int .i64 L] 55)
  have hrd := fun W => r23_reading E W
  have htm := fun W => r23_time L W
  obtain ⟨v, hv⟩ : ∃ v, v = ckE E R D L := ⟨_, rfl⟩
  rw [← hv]
  unfold ckE ckB at hv
  cases h1 : rdB E
  · simp only [h1] at hrd hv
    have HV : Hid (v = 2) := by show _ = _; rw [hv]; simp
    have HRD := Lib.hid hrd
    clear hv hrd htm h1
    go_enter Tryz.func95, Tryz.ntmps95
    go_wp2_with (go_at_call 21; refine (HRD.out _).mono ?_; rintro e w' ⟨rfl, rfl⟩)
    go_ret
    exact ⟨ret_int HV.out.symm, hB⟩
  · simp only [h1] at hrd hv
    have HRD := Lib.hid hrd; clear hrd h1
    by_cases h2 : 1 ≤ R ∧ R ≤ 400 ∧ -1 ≤ D ∧ D ≤ 1
    · obtain ⟨g1, g2, g3, g4⟩ := h2
      have w1 : wiB R 1 400 = true := (wiB_iff _ _ _).2 ⟨g1, g2⟩
      have w2 : wiB D (-1) 1 = true := (wiB_iff _ _ _).2 ⟨g3, g4⟩
      rw [w1, w2] at hv
      cases h3 : wiB L 0 10000000
      all_goals
        simp only [h3] at htm hv
        have HV := Lib.hid hv
        have HTM := Lib.hid htm
        clear hv htm h3 w1 w2
        go_enter Tryz.func95, Tryz.ntmps95
        go_wp2_with (first | (go_at_call 21; refine (HRD.out _).mono ?_; rintro e w' ⟨rfl, rfl⟩) | (go_at_call 127; refine (HTM.out _).mono ?_; rintro e w' ⟨rfl, rfl⟩))
        go_ret
        exact ⟨ret_int (by rw [HV.out]; rfl), hB⟩
    · have hv2 : v = 2 := by
        rw [hv]
        have : (wiB R 1 400 && wiB D (-1) 1) = false := by
          simp only [wiB, Bool.and_eq_false_iff, decide_eq_false_iff_not]; omega
        simp [Bool.and_assoc, this]
      have HV := Lib.hid hv2
      clear hv hv2 htm
      rcases (show R < 1 ∨ (¬ R < 1 ∧ 400 < R) ∨ (¬ R < 1 ∧ ¬ 400 < R ∧ D < -1) ∨ (¬ R < 1 ∧ ¬ 400 < R ∧ ¬ D < -1 ∧ 1 < D) by omega) with g | ⟨g, g2⟩ | ⟨g, g2, g3⟩ | ⟨g, g2, g3, g4⟩
      all_goals
        clear h2
        go_enter Tryz.func95, Tryz.ntmps95
        go_wp2_with (go_at_call 21; refine (HRD.out _).mono ?_; rintro e w' ⟨rfl, rfl⟩)
        go_ret
        exact ⟨ret_int HV.out.symm, hB⟩

set_option maxRecDepth 100000 in
set_option maxHeartbeats 4000000 in
theorem r28_channels (l : List Int) (v : Value) (w : World) (hv : IntsAt w v l) :
    Calls Tryz.prog 94 #[v] w fun e w' => e = .returned (.int .i64 (chE l)) ∧ Below w.heap.size w w' := by
  obtain ⟨p, c, rfl, hv2⟩ := hv
  have HB := Lib.hid (Below.refl w.heap.size w)
  by_cases h0 : l.length = 0
  · rw [chE_no h0, h0]
    clear hv2
    go_enter Tryz.func94, Tryz.ntmps94
    go_wp2_with fail
    go_ret
    exact ⟨rfl, HB.out⟩
  · have hz1 : ((l.length : Int) == 0) = false := by rw [beq_eq_false_iff_ne]; omega
    by_cases h1 : 256 < l.length
    · have hz2 : (256 : Int) < (l.length : Int) := by omega
      rw [chE_many h1]
      clear hv2
      go_enter Tryz.func94, Tryz.ntmps94
      go_wp2_with fail
      go_ret
      exact ⟨rfl, HB.out⟩
    · have hz2 : ¬ (256 : Int) < (l.length : Int) := by omega
      obtain ⟨b, o, rfl, hb, hC⟩ := hv2 (fun e => h0 (by rw [e]; rfl))
      have HC := Lib.hid hC; have HBb := Lib.hid hb; clear hC hb hv2
      have HS0 := Lib.hid (chE_few h0 h1).symm
      go_enter Tryz.func94, Tryz.ntmps94
      go_wp2_with fail
      go_loopw [3] (fun s3 wr => ∃ i r : Nat, s3 = .int .i64 (i : Int) ∧ Hid (i + r = l.length) ∧ Hid (Below w.heap.size w wr) ∧ Hid (chF l r i = chE l)) (fun s3 _ => l.length - (intOf s3).toNat)
      case atStart => exact ⟨0, l.length, rfl, Lib.hid (by omega), HB, HS0⟩
      case round =>
        clear HB
        obtain ⟨i, r, rfl, hkr, HB, HS⟩ := hrel
        cases r with
        | zero =>
          have hlt : ¬ (i : Int) < (l.length : Int) := by have := hkr.out; omega
          have HE : Hid (chE l = 0) := Lib.hid (by rw [← HS.out]; rfl)
          go_wp2_with fail
          go_ret
          exact ⟨by first | (rw [HE.out]; done) | (rw [HE.out]; rfl), HB.out⟩
        | succ r =>
          have hkl : i < l.length := by have := hkr.out; omega
          have hlt : (i : Int) < (l.length : Int) := by omega
          have hi0 : (0 : Int) ≤ (i : Int) := by omega
          have hun : IntKind.i64.wrap ((i : Int) + 1) = (i : Int) + 1 := IntWalk.i64_in _ (by omega)
          have x00 := HC.out i hkl
          have x0 : wr.cell? ⟨b, o + i, none⟩ = some (.int .i64 (inI l i)) := (HB.out.cell (p := ⟨b, o + i, none⟩) HBb.out).trans x00
          have hbr : b < wr.heap.size := by have := HB.out.size; have := HBb.out; omega
          by_cases o0 : inI l i < 1
          · have HE : Hid (chE l = 2) := Lib.hid (by rw [← HS.out, chF_out (by omega)])
            clear HS HC
            generalize inI l i = z at *
            go_wp2_with fail
            go_ret
            exact ⟨by first | (rw [HE.out]; done) | (rw [HE.out]; rfl), HB.out⟩
          by_cases o1 : 999 < inI l i
          · have HE : Hid (chE l = 2) := Lib.hid (by rw [← HS.out, chF_out (by omega)])
            clear HS HC
            generalize inI l i = z at *
            go_wp2_with fail
            go_ret
            exact ⟨by first | (rw [HE.out]; done) | (rw [HE.out]; rfl), HB.out⟩
          have hin : ¬ (inI l i < 1 ∨ 999 < inI l i) := by omega
          go_wp2_with fail
          go_loopw [4] (fun s4 wr2 => ∃ k r2 : Nat, s4 = .int .i64 (k : Int) ∧ Hid (k + r2 = i) ∧ Hid (Below w.heap.size w wr2) ∧ Hid (∀ j, j < k → inI l j ≠ inI l i)) (fun s4 _ => i - (intOf s4).toNat)
          case atStart => exact ⟨0, i, rfl, Lib.hid (by omega), HB, Lib.hid (fun j h => absurd h (Nat.not_lt_zero _))⟩
          case round =>
            clear HB x0
            obtain ⟨k, r2, rfl, hkr2, HB, HN⟩ := hrel
            cases r2 with
            | zero =>
              have hlt2 : ¬ (k : Int) < (i : Int) := by have := hkr2.out; omega
              have HS2 : Hid (chF l r (i + 1) = chE l) := Lib.hid (by rw [← HS.out, chF_go hin (no_take hkl (fun j hj => HN.out j (by have := hkr2.out; omega)))])
              go_wp2_with fail
              go_roundw
              case rel => exact ⟨i + 1, r, by first | rfl | simp, Lib.hid (by have := hkr.out; omega), HB, HS2⟩
              case measure => first | (simp [intOf]; done) | (simp [intOf]; omega)
            | succ r2 =>
              have hki : k < i := by have := hkr2.out; omega
              have hlt2 : (k : Int) < (i : Int) := by omega
              have hkl2 : (k : Int) < (l.length : Int) := by omega
              have hk0 : (0 : Int) ≤ (k : Int) := by omega
              have hun2 : IntKind.i64.wrap ((k : Int) + 1) = (k : Int) + 1 := IntWalk.i64_in _ (by omega)
              have y0 := HC.out k (by omega)
              have hbr : b < wr.heap.size := Nat.lt_of_lt_of_le HBb.out HB.out.size
              by_cases he : inI l k = inI l i
              · have HE : Hid (chE l = 7) := Lib.hid (by rw [← HS.out, chF_two hin (has_take hki hkl he)])
                have hq : ((inI l k : Int) == inI l i) = true := by simpa using he
                clear he HS HC HN
                go_wp2_with fail
                have f0 := fun p : BelowOf _ => ((bch' HB.out p.h).cell (p := ⟨b, o + k, none⟩) HBb.out).trans y0
                have g0 := fun p : BelowOf _ => ((bch' HB.out p.h).cell (p := ⟨b, o + i, none⟩) HBb.out).trans x00
                refine wp_region_WQ (by kernel_rfl) (by kernel_rfl) ?_
                repeat (refine WQ.step (fun K hK => ?_); go_simp; first | (refine hK.out _ ?_; clear hK K) | (apply Exists.intro; refine ⟨fun _ => ?_, hK.out _ ?_⟩; (first | rfl); clear hK K))
                refine WQ.nil ?_
                intro _ hw'
                obtain ⟨⟨wq, hbq⟩, hw2⟩ := hw'
                subst hw2
                replace HB := Lib.hid (bch' HB.out hbq)
                clear f0 g0
                go_wp2_with fail
                go_ret
                exact ⟨by first | (rw [HE.out]; done) | (rw [HE.out]; rfl), HB.out⟩
              · have hq : ((inI l k : Int) == inI l i) = false := by simpa using he
                have HN2 : Hid (∀ j, j < k + 1 → inI l j ≠ inI l i) := Lib.hid (fun j hj => by by_cases e : j = k; (subst e; exact he); exact HN.out j (by omega))
                clear he
                go_wp2_with fail
                have f0 := fun p : BelowOf _ => ((bch' HB.out p.h).cell (p := ⟨b, o + k, none⟩) HBb.out).trans y0
                have g0 := fun p : BelowOf _ => ((bch' HB.out p.h).cell (p := ⟨b, o + i, none⟩) HBb.out).trans x00
                refine wp_region_WQ (by kernel_rfl) (by kernel_rfl) ?_
                repeat (refine WQ.step (fun K hK => ?_); go_simp; first | (refine hK.out _ ?_; clear hK K) | (apply Exists.intro; refine ⟨fun _ => ?_, hK.out _ ?_⟩; (first | rfl); clear hK K))
                refine WQ.nil ?_
                intro _ hw'
                obtain ⟨⟨wq, hbq⟩, hw2⟩ := hw'
                subst hw2
                replace HB := Lib.hid (bch' HB.out hbq)
                clear f0 g0
                go_wp2_with fail
                go_roundw
                case rel => exact ⟨k + 1, r2, by first | rfl | simp, Lib.hid (by have := hkr2.out; omega), HB, HN2⟩
                case measure => first | (simp [intOf]; done) | (simp [intOf]; omega)

set_option maxRecDepth 100000 in
set_option maxHeartbeats 4000000 in
theorem r28_run (ef ce cr cd cl : Int) (cs : List Int) (p : Option Addr) (n c : Nat) (w : World) (hv : IntsAt w (.slice p n c) cs) :
    Calls Tryz.prog 28 #[.agg #[.int .i64 ef, .slice p n c, .int .i64 ce, .int .i64 cr, .int .i64 cd, .int .i64 cl]] w fun e w' => e = .returned (.int .i64 (rnE ⟨ef, cs, ce, cr, cd, cl⟩)) ∧ Below w.heap.size w w' := by
  have hch := fun W (h : IntsAt W (.slice p n c) cs) => r28_channels cs (.slice p n c) W h
  have hcc := fun W => r23_check ce cr cd cl W
  have HV := Lib.hid (IntsAt.below hv ((Below.refl w.heap.size w).alloc (Nat.le_refl _) (.cells #[.int .i64 ef, .slice p n c, .int .i64 ce, .int .i64 cr, .int .i64 cd, .int .i64 cl] 58)))
  clear hv
  have HK := Lib.hid (Blk.new w 58 #[.int .i64 ef, .slice p n c, .int .i64 ce, .int .i64 cr, .int .i64 cd, .int .i64 cl])
  have HB := Lib.hid ((Below.refl w.heap.size w).alloc (Nat.le_refl _) (.cells #[.int .i64 ef, .slice p n c, .int .i64 ce, .int .i64 cr, .int .i64 cd, .int .i64 cl] 58))
  obtain ⟨k0, k1, k2, k3, k4, k5, kf0, kf1, kf2, kf3, kf4, kf5⟩ := HK.out.c6
  by_cases o0 : ef < 1
  · rw [rnE_ef (x := ⟨ef, cs, ce, cr, cd, cl⟩) (by dsimp only; omega)]
    clear hch hcc
    go_enter Tryz.func28, Tryz.ntmps28
    go_wp2_with fail
    go_ret
    exact ⟨rfl, HB.out⟩
  by_cases o1 : 1048576 < ef
  · rw [rnE_ef (x := ⟨ef, cs, ce, cr, cd, cl⟩) (by dsimp only; omega)]
    clear hch hcc
    go_enter Tryz.func28, Tryz.ntmps28
    go_wp2_with fail
    go_ret
    exact ⟨rfl, HB.out⟩
  have on : ¬ (ef < 1 ∨ 1048576 < ef) := by omega
  by_cases hz : chE cs = 0
  · rw [hz] at hch
    rw [rnE_ck (x := ⟨ef, cs, ce, cr, cd, cl⟩) on hz]
    show Calls _ _ _ _ (fun e w' => e = .returned (.int .i64 (ckE ce cr cd cl)) ∧ _)
    clear on hz
    generalize ckE ce cr cd cl = m at *
    have HCH := Lib.hid hch; clear hch
    have HCC := Lib.hid hcc; clear hcc
    go_enter Tryz.func28, Tryz.ntmps28
    go_wp2_with (first | (with_reducible refine ((HCH.out _ HV.out).mono ?_); rintro e w' ⟨rfl, hb⟩; replace HK := Lib.hid (HK.out.keep hb); clear k0 k1 k2 k3 k4 k5 kf0 kf1 kf2 kf3 kf4 kf5; replace HV := Lib.hid (IntsAt.below HV.out hb); replace HB := Lib.hid (bch' HB.out hb); clear hb; obtain ⟨k0, k1, k2, k3, k4, k5, kf0, kf1, kf2, kf3, kf4, kf5⟩ := HK.out.c6) | (with_reducible refine ((HCC.out _).mono ?_); rintro e w' ⟨rfl, hb⟩; replace HK := Lib.hid (HK.out.keep hb); clear k0 k1 k2 k3 k4 k5 kf0 kf1 kf2 kf3 kf4 kf5; replace HB := Lib.hid (bch' HB.out hb); clear hb; obtain ⟨k0, k1, k2, k3, k4, k5, kf0, kf1, kf2, kf3, kf4, kf5⟩ := HK.out.c6))
    go_ret
    exact ⟨rfl, HB.out⟩
  · rw [rnE_ch (x := ⟨ef, cs, ce, cr, cd, cl⟩) on hz]
    have he : ((chE cs : Int) != 0) = true := by simpa using hz
    clear on hz
    show Calls _ _ _ _ (fun e w' => e = .returned (.int .i64 (chE cs)) ∧ _)
    generalize chE cs = m at *
    have HCH := Lib.hid hch; clear hch
    go_enter Tryz.func28, Tryz.ntmps28
    go_wp2_with (first | (with_reducible refine ((HCH.out _ HV.out).mono ?_); rintro e w' ⟨rfl, hb⟩; replace HK := Lib.hid (HK.out.keep hb); clear k0 k1 k2 k3 k4 k5 kf0 kf1 kf2 kf3 kf4 kf5; replace HV := Lib.hid (IntsAt.below HV.out hb); replace HB := Lib.hid (bch' HB.out hb); clear hb; obtain ⟨k0, k1, k2, k3, k4, k5, kf0, kf1, kf2, kf3, kf4, kf5⟩ := HK.out.c6))
    go_ret
    exact ⟨rfl, HB.out⟩

end Go.Proofs.YtbamcfhmkohbmaaGreatDoor
