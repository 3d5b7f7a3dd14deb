/-
  Reference of layer 23: Reading, Time, Check, moment, Shown, At, Fresh, New.
  Reference clock: Moved, Move, Turned, Pause, Resume, Reverse.
  Reference clock: Turned, Pause, Resume, Reverse, Rate, Back (by gencr3.py).
  Reference clock: Rate.
-/
import Derived.Test.YtnjaikomoljmjaaGreatDoorKe
set_option linter.unusedVariables false
set_option linter.unusedSimpArgs false
namespace Go.Proofs.YtnjaikomoljmjaaGreatDoor
open Go.RowKit Go.Shelf Lum
attribute [local go_sem] bs_get bs_extract_end bs_extract_from bs_extract bs_append

set_option maxHeartbeats 400000 in
theorem r23_reading (n : Int) (w : World) : Calls Tryz.prog 26 #[.int .i64 n] w fun e w' => e = .returned (.bool (rdB n)) ∧ w = w' := by
  by_cases h1 : 0 ≤ n
  · by_cases h2 : n ≤ 8000000000
    all_goals
      go_enter Tryz.func26, Tryz.ntmps26
      go_wp2
      go_ret
      exact ⟨ret_bool (by unfold rdB; simp [h1, h2]), rfl⟩
  · go_enter Tryz.func26, Tryz.ntmps26
    go_wp2
    go_ret
    exact ⟨ret_bool (by unfold rdB; simp; omega), rfl⟩
set_option maxHeartbeats 400000 in
theorem r23_time (n : Int) (w : World) : Calls Tryz.prog 25 #[.int .i64 n] w fun e w' => e = .returned (.bool (wiB n 0 10000000)) ∧ w = w' := by
  by_cases h1 : 0 ≤ n
  · by_cases h2 : n ≤ 10000000
    all_goals
      go_enter Tryz.func25, Tryz.ntmps25
      go_wp2
      go_ret
      exact ⟨ret_bool (by unfold wiB; simp [h1, h2]), rfl⟩
  · go_enter Tryz.func25, Tryz.ntmps25
    go_wp2
    go_ret
    exact ⟨ret_bool (by unfold wiB; simp; omega), rfl⟩
set_option maxHeartbeats 2000000 in
theorem r23_check (E R D L : Int) (w : World) : Calls Tryz.prog 24 #[.agg #[.int .i64 E, .int .i64 R, .int .i64 D, .int .i64 L]] w fun e w' => e = .returned (.int .i64 (ckE E R D L)) ∧ Below w.heap.size w w' := by
  have hB := (Below.refl w.heap.size w).alloc (Nat.le_refl _) (.cells #[.int .i64 E, .int .i64 R, .int .i64 D, .int .i64 L] 23)
  have hrd := fun W => r23_reading E W
  have htm := fun W => r23_time L W
  obtain ⟨v, hv⟩ : ∃ v, v = ckE E R D L := ⟨_, rfl⟩
  rw [← hv]
  unfold ckE ckB at hv
  cases h1 : rdB E
  · simp only [h1] at hrd hv
    have HV : Hid (v = 2) := by show _ = _; rw [hv]; simp
    have HRD := Lib.hid hrd
    clear hv hrd htm h1
    go_enter Tryz.func24, Tryz.ntmps24
    go_wp2_with (go_at_call 26; refine (HRD.out _).mono ?_; rintro e w' ⟨rfl, rfl⟩)
    go_ret
    exact ⟨ret_int HV.out.symm, hB⟩
  · simp only [h1] at hrd hv
    have HRD := Lib.hid hrd; clear hrd h1
    by_cases h2 : 1 ≤ R ∧ R ≤ 400 ∧ -1 ≤ D ∧ D ≤ 1
    · obtain ⟨g1, g2, g3, g4⟩ := h2
      have w1 : wiB R 1 400 = true := (wiB_iff _ _ _).2 ⟨g1, g2⟩
      have w2 : wiB D (-1) 1 = true := (wiB_iff _ _ _).2 ⟨g3, g4⟩
      rw [w1, w2] at hv
      cases h3 : wiB L 0 10000000
      all_goals
        simp only [h3] at htm hv
        have HV := Lib.hid hv
        have HTM := Lib.hid htm
        clear hv htm h3 w1 w2
        go_enter Tryz.func24, Tryz.ntmps24
        go_wp2_with (first | (go_at_call 26; refine (HRD.out _).mono ?_; rintro e w' ⟨rfl, rfl⟩) | (go_at_call 25; refine (HTM.out _).mono ?_; rintro e w' ⟨rfl, rfl⟩))
        go_ret
        exact ⟨ret_int (by rw [HV.out]; rfl), hB⟩
    · have hv2 : v = 2 := by
        rw [hv]
        have : (wiB R 1 400 && wiB D (-1) 1) = false := by
          simp only [wiB, Bool.and_eq_false_iff, decide_eq_false_iff_not]; omega
        simp [Bool.and_assoc, this]
      have HV := Lib.hid hv2
      clear hv hv2 htm
      rcases (show R < 1 ∨ (¬ R < 1 ∧ 400 < R) ∨ (¬ R < 1 ∧ ¬ 400 < R ∧ D < -1) ∨ (¬ R < 1 ∧ ¬ 400 < R ∧ ¬ D < -1 ∧ 1 < D) by omega) with g | ⟨g, g2⟩ | ⟨g, g2, g3⟩ | ⟨g, g2, g3, g4⟩
      all_goals
        clear h2
        go_enter Tryz.func24, Tryz.ntmps24
        go_wp2_with (go_at_call 26; refine (HRD.out _).mono ?_; rintro e w' ⟨rfl, rfl⟩)
        go_ret
        exact ⟨ret_int HV.out.symm, hB⟩

set_option maxHeartbeats 1000000 in
theorem r23_moment (E R D L t : Int) (w : World) : Calls Tryz.prog 85 #[.agg #[.int .i64 E, .int .i64 R, .int .i64 D, .int .i64 L], .int .i64 t] w fun e w' => e = .returned (.int .i64 (moE E R D L t)) ∧ Below w.heap.size w w' := by
  have hB := (Below.refl w.heap.size w).alloc (Nat.le_refl _) (.cells #[.int .i64 E, .int .i64 R, .int .i64 D, .int .i64 L] 23)
  have hc := r23_check E R D L (w.alloc (.cells #[.int .i64 E, .int .i64 R, .int .i64 D, .int .i64 L] 23))
  obtain ⟨v, hv⟩ : ∃ v, v = moE E R D L t := ⟨_, rfl⟩
  rw [← hv]
  unfold moE at hv
  have HV := Lib.hid hv; clear hv
  have hcl : (w.alloc (.cells #[.int .i64 E, .int .i64 R, .int .i64 D, .int .i64 L] 23)).cell? ⟨w.heap.size, 3, none⟩ = some (.int .i64 L) := by simp [go_sem]
  have hlt : w.heap.size < (w.alloc (.cells #[.int .i64 E, .int .i64 R, .int .i64 D, .int .i64 L] 23)).heap.size := by simp
  unfold ckE at hc
  cases hk : ckB E R D L
  · rw [hk] at hc HV
    have HC := Lib.hid hc; clear hc hk
    go_enter Tryz.func85, Tryz.ntmps85
    go_wp2_with fail
    refine (HC.out).mono ?_
    rintro e w1 ⟨rfl, hb1⟩
    go_wp2
    go_ret
    exact ⟨ret_int (by rw [HV.out]; rfl), bch' hB hb1⟩
  · rw [hk] at hc HV
    have HC := Lib.hid hc; clear hc hk
    go_enter Tryz.func85, Tryz.ntmps85
    go_wp2_with fail
    generalize w.alloc (.cells #[.int .i64 E, .int .i64 R, .int .i64 D, .int .i64 L] 23) = W0 at *
    refine (HC.out).mono ?_
    rintro e w1 ⟨rfl, hb1⟩
    have hcl1 : w1.cell? ⟨w.heap.size, 3, none⟩ = some (.int .i64 L) := (hb1.cell (p := ⟨w.heap.size, 3, none⟩) hlt).trans hcl
    have HB := Lib.hid (bch' hB hb1); clear hb1 hB hcl hlt
    have hw := r23_time t w1
    cases h2 : wiB t 0 10000000
    · rw [h2] at hw HV
      have HW := Lib.hid hw; clear hw h2
      go_wp2_with fail
      refine (HW.out).mono ?_
      rintro e w' ⟨rfl, rfl⟩
      go_wp2
      go_ret
      exact ⟨ret_int (by rw [HV.out]; rfl), HB.out⟩
    · rw [h2] at hw HV
      have HW := Lib.hid hw; clear hw h2
      by_cases h3 : t < L
      · have HV2 : Hid (v = 9) := by show _ = _; rw [HV.out]; simp [h3]
        go_wp2_with fail
        refine (HW.out).mono ?_
        rintro e w' ⟨rfl, rfl⟩
        go_wp2
        go_ret
        exact ⟨ret_int HV2.out.symm, HB.out⟩
      · have HV2 : Hid (v = 0) := by show _ = _; rw [HV.out]; simp [h3]
        go_wp2_with fail
        refine (HW.out).mono ?_
        rintro e w' ⟨rfl, rfl⟩
        go_wp2
        go_ret
        exact ⟨ret_int HV2.out.symm, HB.out⟩

set_option maxHeartbeats 1000000 in
theorem r23_shown (E R D L t : Int) (w : World) (hk : ckB E R D L = true) (ht : 0 ≤ t ∧ t ≤ 10000000) (hl : L ≤ t) : Calls Tryz.prog 27 #[.agg #[.int .i64 E, .int .i64 R, .int .i64 D, .int .i64 L], .int .i64 t] w fun e w' => e = .returned (.int .i64 (shZ E R D L t)) ∧ Below w.heap.size w w' := by
  have hB := (Below.refl w.heap.size w).alloc (Nat.le_refl _) (.cells #[.int .i64 E, .int .i64 R, .int .i64 D, .int .i64 L] 23)
  obtain ⟨b1, b2, b3, b4, b5, b6⟩ := sh_bounds hk ht hl
  obtain ⟨h1, h2, h3, h4⟩ := (ckB_iff _ _ _ _).1 hk
  have e1 : IntKind.i64.wrap (D * R) = D * R := IntWalk.i64_in _ (by omega)
  have e3 : IntKind.i64.wrap (D * R * (t - L)) = D * R * (t - L) := IntWalk.i64_in _ (by omega)
  have e5 : wrap64 (D * R) = D * R := wr64 (by omega) (by omega)
  have e6 : wrap64 (D * R * (t - L)) = D * R * (t - L) := wr64 (by omega) (by omega)
  have e7 : wrap64 (E + D * R * (t - L)) = E + D * R * (t - L) := wr64 (by omega) (by omega)
  go_enter Tryz.func27, Tryz.ntmps27
  go_wp2
  go_ret
  exact ⟨rfl, hB⟩

set_option maxHeartbeats 1000000 in
theorem r23_at (E R D L t : Int) (w : World) : Calls Tryz.prog 19 #[.agg #[.int .i64 E, .int .i64 R, .int .i64 D, .int .i64 L], .int .i64 t] w fun e w' => e = .returned (.tuple #[.int .i64 (if moE E R D L t = 0 then shZ E R D L t else 0), .int .i64 (moE E R D L t)]) ∧ Below w.heap.size w w' := by
  have hB := (Below.refl w.heap.size w).alloc (Nat.le_refl _) (.cells #[.int .i64 E, .int .i64 R, .int .i64 D, .int .i64 L] 23)
  have hm := r23_moment E R D L t (w.alloc (.cells #[.int .i64 E, .int .i64 R, .int .i64 D, .int .i64 L] 23))
  have hc : ∀ j v, (#[Value.int .i64 E, .int .i64 R, .int .i64 D, .int .i64 L] : Array Value)[j]? = some v → (w.alloc (.cells #[.int .i64 E, .int .i64 R, .int .i64 D, .int .i64 L] 23)).cell? ⟨w.heap.size, j, none⟩ = some v := fun j v h => by rw [World.cell?_alloc_new]; exact h
  have c0 := hc 0 _ rfl
  have c1 := hc 1 _ rfl
  have c2 := hc 2 _ rfl
  have c3 := hc 3 _ rfl
  have hlt : w.heap.size < (w.alloc (.cells #[.int .i64 E, .int .i64 R, .int .i64 D, .int .i64 L] 23)).heap.size := by simp
  have HM := Lib.hid hm; clear hm hc
  by_cases hz : moE E R D L t = 0
  · obtain ⟨k1, k2, k3⟩ := moE_zero hz
    rw [hz] at HM ⊢
    rw [if_pos rfl]
    have hs := fun W => r23_shown E R D L t W k1 k2 k3
    have HS := Lib.hid hs; clear hs hz k1 k2 k3
    generalize shZ E R D L t = sh at *
    go_enter Tryz.func19, Tryz.ntmps19
    go_wp2_with fail
    generalize w.alloc (.cells #[.int .i64 E, .int .i64 R, .int .i64 D, .int .i64 L] 23) = W0 at *
    refine (HM.out).mono ?_
    rintro e w1 ⟨rfl, hb1⟩
    have d0 := (hb1.cell (p := ⟨w.heap.size, 0, none⟩) hlt).trans c0
    have d1 := (hb1.cell (p := ⟨w.heap.size, 1, none⟩) hlt).trans c1
    have d2 := (hb1.cell (p := ⟨w.heap.size, 2, none⟩) hlt).trans c2
    have d3 := (hb1.cell (p := ⟨w.heap.size, 3, none⟩) hlt).trans c3
    have HB := Lib.hid (bch' hB hb1); clear hb1 hB c0 c1 c2 c3
    go_wp2_with fail
    refine (HS.out _).mono ?_
    rintro e w2 ⟨rfl, hb2⟩
    go_wp2
    go_ret2
    exact ⟨rfl, bch' HB.out hb2⟩
  · have hne : ((moE E R D L t : Int) != 0) = true := by simpa using hz
    rw [if_neg hz]
    generalize moE E R D L t = v at *
    clear hz
    go_enter Tryz.func19, Tryz.ntmps19
    go_wp2_with fail
    refine (HM.out).mono ?_
    rintro e w1 ⟨rfl, hb1⟩
    go_wp2
    go_ret2
    exact ⟨rfl, bch' hB hb1⟩

set_option maxHeartbeats 1000000 in
theorem r23_fresh (t : Int) (w : World) : Calls Tryz.prog 87 #[.int .i64 t] w fun e w' => e = .returned (clkV (0, 100, 1, t)) ∧ Below w.heap.size w w' := by
  go_enter Tryz.func87, Tryz.ntmps87
  go_wp2
  refine bodyPost_ret_by (v := clkV (0, 100, 1, t)) (by simp [results, Tryz.f87, go_sem, clkV]) rfl ⟨rfl, ?_⟩
  exact (Below.refl _ w).alloc (Nat.le_refl _) _
set_option maxHeartbeats 1000000 in
theorem r23_new (t : Int) (w : World) : Calls Tryz.prog 21 #[.int .i64 t] w fun e w' => e = .returned (.tuple #[clkV (if wiB t 0 10000000 then (0, 100, 1, t) else (0, 0, 0, 0)), .int .i64 (if wiB t 0 10000000 then 0 else 2)]) ∧ Below w.heap.size w w' := by
  have hw := fun W => r23_time t W
  have hf := fun W => r23_fresh t W
  have hB := (Below.refl w.heap.size w).alloc (Nat.le_refl _) (.cells #[.int .i64 0, .int .i64 0, .int .i64 0, .int .i64 0] 23)
  have hr := CBox.new w 23 0 0 0 0
  unfold clkV at hf
  cases hk : wiB t 0 10000000
  · simp only [hk] at hw
    have HW := Lib.hid hw; clear hw hk
    go_enter Tryz.func21, Tryz.ntmps21
    go_wp2_with fail
    refine (HW.out _).mono ?_
    rintro e w' ⟨rfl, rfl⟩
    go_wp2
    refine bodyPost_ret_by (v := .tuple #[clkV (0, 0, 0, 0), .int .i64 2]) (by simp [results, Tryz.f21, go_sem, clkV]) rfl ⟨rfl, ?_⟩
    exact (Below.refl _ w).alloc (Nat.le_refl _) _
  · simp only [hk] at hw
    have HW := Lib.hid hw; clear hw hk
    have HF := Lib.hid hf; clear hf
    go_enter Tryz.func21, Tryz.ntmps21
    go_wp2_with fail
    generalize w.alloc (.cells #[.int .i64 0, .int .i64 0, .int .i64 0, .int .i64 0] 23) = W0 at *
    refine (HW.out _).mono ?_
    rintro e w' ⟨rfl, rfl⟩
    go_wp2_with fail
    refine (HF.out _).mono ?_
    rintro e w2 ⟨rfl, hb2⟩
    have hr2 := hr.keep hb2
    obtain ⟨a0, a1, a2, a3, f0, f1, f2, f3, lt⟩ := hr2
    go_wp2
    refine bodyPost_ret_by (v := .tuple #[clkV (0, 100, 1, t), .int .i64 0]) (by simp [results, Tryz.f21, go_sem, clkV, a0, a1, a2, a3, f0, f1, f2, f3]) rfl ⟨rfl, ?_⟩
    exact below_set4 (bch' hB hb2) (by omega) _ _ _ _
end Go.Proofs.YtnjaikomoljmjaaGreatDoor
namespace Go.Proofs.YtnjaikomoljmjaaGreatDoor
open Go.RowKit Go.Shelf Lum
attribute [local go_sem] bs_get bs_extract_end bs_extract_from bs_extract bs_append

set_option maxHeartbeats 1000000 in
theorem r23_moved (E R D L t : Int) (w : World) (k1 : ckB E R D L = true) (k2 : 0 ≤ t ∧ t ≤ 10000000) (k3 : L ≤ t) : Calls Tryz.prog 105 #[.agg #[.int .i64 E, .int .i64 R, .int .i64 D, .int .i64 L], .int .i64 t] w fun e w' => e = .returned (clkV (shZ E R D L t, R, D, t)) ∧ Below w.heap.size w w' := by
  have hB := ((Below.refl w.heap.size w).alloc (Nat.le_refl _) (.cells #[.int .i64 E, .int .i64 R, .int .i64 D, .int .i64 L] 23)).alloc (by simp) (.cells #[.int .i64 0, .int .i64 0, .int .i64 0, .int .i64 0] 23)
  have hr := CBox.new (w.alloc (.cells #[.int .i64 E, .int .i64 R, .int .i64 D, .int .i64 L] 23)) 23 0 0 0 0
  have hf := (CBox.new w 23 E R D L).alloc (.cells #[.int .i64 0, .int .i64 0, .int .i64 0, .int .i64 0] 23)
  simp only [World.size_alloc] at hr hf
  have hs := fun W => r23_shown E R D L t W k1 k2 k3
  have HS := Lib.hid hs; clear hs k1 k2 k3
  generalize shZ E R D L t = sh at *
  go_enter Tryz.func105, Tryz.ntmps105
  go_wp2_with fail
  generalize (w.alloc (.cells #[.int .i64 E, .int .i64 R, .int .i64 D, .int .i64 L] 23)).alloc (.cells #[.int .i64 0, .int .i64 0, .int .i64 0, .int .i64 0] 23) = W0 at *
  have HB0 := Lib.hid hB; clear hB
  have HR0 := Lib.hid hr
  have HF0 := Lib.hid hf
  obtain ⟨b0, b1, b2, b3, g0, g1, g2, g3, gt⟩ := id hf
  clear hr
  refine (HS.out _).mono ?_
  rintro e w2 ⟨rfl, hb2⟩
  have hr2 := HR0.out.keep hb2
  have hf2 := HF0.out.keep hb2
  have HB2 := Lib.hid (bch' HB0.out hb2); clear hb2
  clear b0 b1 b2 b3 g0 g1 g2 g3 gt hf
  have hf3 := hf2.set03 sh t
  have ho3 := ((Only.refl w.heap.size w2).setAt 0 (.int .i64 sh)).setAt 3 (.int .i64 t)
  have hr3 := hr2.only ho3 (by omega)
  have HBS := Lib.hid ((HB2.out.setCell (p := ⟨w.heap.size, 0, none⟩) (Nat.le_refl _) (.int .i64 sh)).setCell (p := ⟨w.heap.size, 3, none⟩) (Nat.le_refl _) (.int .i64 t))
  obtain ⟨b0, b1, b2, b3, g0, g1, g2, g3, gt⟩ := id hf2
  have HF3 := Lib.hid hf3; clear hf3
  obtain ⟨a0, a1, a2, a3, f0, f1, f2, f3, lt⟩ := hr3
  obtain ⟨p0, p1, p2, p3, q0, q1, q2, q3, pt⟩ := HF3.out
  go_wp2_with fail
  refine bodyPost_ret_by (v := clkV (sh, R, D, t)) (by simp [results, Tryz.f105, go_sem, clkV, a0, a1, a2, a3, f0, f1, f2, f3]) rfl ⟨rfl, ?_⟩
  exact below_set4 HBS.out (by omega) _ _ _ _

set_option maxRecDepth 100000 in
set_option maxHeartbeats 1000000 in
theorem r23_move (E R D L t : Int) (w : World) : Calls Tryz.prog 38 #[.agg #[.int .i64 E, .int .i64 R, .int .i64 D, .int .i64 L], .int .i64 t] w fun e w' => e = .returned (.tuple #[clkV (chgT (fun R D => (R, D)) E R D L t true).1, .int .i64 (chgT (fun R D => (R, D)) E R D L t true).2]) ∧ Below w.heap.size w w' := by
  have hB := ((Below.refl w.heap.size w).alloc (Nat.le_refl _) (.cells #[.int .i64 E, .int .i64 R, .int .i64 D, .int .i64 L] 23)).alloc (by simp) (.cells #[.int .i64 0, .int .i64 0, .int .i64 0, .int .i64 0] 23)
  have hr := CBox.new (w.alloc (.cells #[.int .i64 E, .int .i64 R, .int .i64 D, .int .i64 L] 23)) 23 0 0 0 0
  have hf := (CBox.new w 23 E R D L).alloc (.cells #[.int .i64 0, .int .i64 0, .int .i64 0, .int .i64 0] 23)
  simp only [World.size_alloc] at hr hf
  have hm := fun W => r23_moment E R D L t W
  have HM := Lib.hid hm; clear hm
  obtain ⟨v, hv⟩ : ∃ v, v = chgT (fun R D => (R, D)) E R D L t true := ⟨_, rfl⟩
  rw [← hv]
  unfold chgT at hv
  have HV := Lib.hid hv; clear hv
  by_cases hz : moE E R D L t = 0
  · obtain ⟨k1, k2, k3⟩ := moE_zero hz
    rw [hz] at HM
    have HV1 : Hid (v = if rdB (shZ E R D L t) = false then ((0, 0, 0, 0), 24) else ((shZ E R D L t, R, D, t), 0)) := by show _ = _; rw [HV.out, if_neg (by simpa using hz), if_neg (by simp)]
    have hs := fun W => r23_shown E R D L t W k1 k2 k3
    have hmv := fun W => r23_moved E R D L t W k1 k2 k3
    have hrd := fun W => r23_reading (shZ E R D L t) W
    unfold clkV at hmv
    dsimp only at hmv
    have HS := Lib.hid hs; clear hs hz k1 k2 k3 HV
    have HMV := Lib.hid hmv; clear hmv
    cases hk : rdB (shZ E R D L t)
    · have HV3 : Hid (v = ((0, 0, 0, 0), 24)) := by show _ = _; rw [HV1.out, if_pos hk]
      simp only [hk] at hrd
      have HRD := Lib.hid hrd; clear hrd hk HV1
      generalize shZ E R D L t = sh at *
      go_enter Tryz.func38, Tryz.ntmps38
      go_wp2_with fail
      generalize (w.alloc (.cells #[.int .i64 E, .int .i64 R, .int .i64 D, .int .i64 L] 23)).alloc (.cells #[.int .i64 0, .int .i64 0, .int .i64 0, .int .i64 0] 23) = W0 at *
      have HR0 := Lib.hid hr; clear hr
      have HF0 := Lib.hid hf
      have HB0 := Lib.hid hB; clear hB
      obtain ⟨b0, b1, b2, b3, g0, g1, g2, g3, gt⟩ := hf
      refine (HM.out _).mono ?_
      rintro e w1 ⟨rfl, hb1⟩
      have hr1 := HR0.out.keep hb1
      have hf1 := HF0.out.keep hb1
      have HB1 := Lib.hid (bch' HB0.out hb1); clear hb1
      have HR1 := Lib.hid hr1; clear hr1
      clear b0 b1 b2 b3 g0 g1 g2 g3 gt
      obtain ⟨b0, b1, b2, b3, g0, g1, g2, g3, gt⟩ := hf1
      go_wp2_with fail
      refine (HS.out _).mono ?_
      rintro e w2 ⟨rfl, hb2⟩
      have hr2 := HR1.out.keep hb2
      have HB2 := Lib.hid (bch' HB1.out hb2); clear hb2
      clear b0 b1 b2 b3 g0 g1 g2 g3 gt
      obtain ⟨a0, a1, a2, a3, f0, f1, f2, f3, lt⟩ := hr2
      go_wp2_with fail
      refine (HRD.out _).mono ?_
      rintro e w' ⟨rfl, rfl⟩
      go_wp2_with fail
      refine bodyPost_ret_by (v := .tuple #[clkV (0, 0, 0, 0), .int .i64 24]) (by simp [results, Tryz.f38, go_sem, clkV, a0, a1, a2, a3, f0, f1, f2, f3]) rfl ⟨by rw [HV3.out], ?_⟩
      exact below_set4 HB2.out (by omega) _ _ _ _
    · have HV3 : Hid (v = ((shZ E R D L t, R, D, t), 0)) := by show _ = _; rw [HV1.out, if_neg (by rw [hk]; simp)]
      simp only [hk] at hrd
      have HRD := Lib.hid hrd; clear hrd hk HV1
      generalize shZ E R D L t = sh at *
      go_enter Tryz.func38, Tryz.ntmps38
      go_wp2_with fail
      generalize (w.alloc (.cells #[.int .i64 E, .int .i64 R, .int .i64 D, .int .i64 L] 23)).alloc (.cells #[.int .i64 0, .int .i64 0, .int .i64 0, .int .i64 0] 23) = W0 at *
      have HR0 := Lib.hid hr; clear hr
      have HF0 := Lib.hid hf
      have HB0 := Lib.hid hB; clear hB
      obtain ⟨b0, b1, b2, b3, g0, g1, g2, g3, gt⟩ := hf
      refine (HM.out _).mono ?_
      rintro e w1 ⟨rfl, hb1⟩
      have hr1 := HR0.out.keep hb1
      have hf1 := HF0.out.keep hb1
      have HB1 := Lib.hid (bch' HB0.out hb1); clear hb1
      have HR1 := Lib.hid hr1; clear hr1
      have HF1 := Lib.hid hf1
      clear b0 b1 b2 b3 g0 g1 g2 g3 gt
      obtain ⟨b0, b1, b2, b3, g0, g1, g2, g3, gt⟩ := hf1
      go_wp2_with fail
      refine (HS.out _).mono ?_
      rintro e w2 ⟨rfl, hb2⟩
      have HR2 := Lib.hid (HR1.out.keep hb2)
      have hf2 := HF1.out.keep hb2
      have HB2 := Lib.hid (bch' HB1.out hb2); clear hb2
      clear b0 b1 b2 b3 g0 g1 g2 g3 gt
      obtain ⟨b0, b1, b2, b3, g0, g1, g2, g3, gt⟩ := hf2
      go_wp2_with fail
      refine (HRD.out _).mono ?_
      rintro e w' ⟨rfl, rfl⟩
      go_wp2_with fail
      refine (HMV.out _).mono ?_
      rintro e w3 ⟨rfl, hb3⟩
      have hr3 := HR2.out.keep hb3
      have HB3 := Lib.hid (bch' HB2.out hb3); clear hb3
      clear b0 b1 b2 b3 g0 g1 g2 g3 gt
      obtain ⟨a0, a1, a2, a3, f0, f1, f2, f3, lt⟩ := hr3
      go_wp2_with fail
      refine bodyPost_ret_by (v := .tuple #[clkV (sh, R, D, t), .int .i64 0]) (by simp [results, Tryz.f38, go_sem, clkV, a0, a1, a2, a3, f0, f1, f2, f3]) rfl ⟨by rw [HV3.out], ?_⟩
      exact below_set4 HB3.out (by omega) _ _ _ _
  · have HV1 : Hid (v = ((0, 0, 0, 0), moE E R D L t)) := by show _ = _; rw [HV.out, if_pos (by simpa using hz)]
    have hne : ((moE E R D L t : Int) != 0) = true := by simpa using hz
    generalize moE E R D L t = m at *
    clear HV hz
    go_enter Tryz.func38, Tryz.ntmps38
    go_wp2_with fail
    generalize (w.alloc (.cells #[.int .i64 E, .int .i64 R, .int .i64 D, .int .i64 L] 23)).alloc (.cells #[.int .i64 0, .int .i64 0, .int .i64 0, .int .i64 0] 23) = W0 at *
    have HR0 := Lib.hid hr; clear hr
    have HB0 := Lib.hid hB; clear hB
    obtain ⟨b0, b1, b2, b3, g0, g1, g2, g3, gt⟩ := hf
    refine (HM.out _).mono ?_
    rintro e w1 ⟨rfl, hb1⟩
    have hr1 := HR0.out.keep hb1
    have HB1 := Lib.hid (bch' HB0.out hb1); clear hb1
    clear b0 b1 b2 b3 g0 g1 g2 g3 gt
    obtain ⟨a0, a1, a2, a3, f0, f1, f2, f3, lt⟩ := hr1
    go_wp2_with fail
    refine bodyPost_ret_by (v := .tuple #[clkV (0, 0, 0, 0), .int .i64 m]) (by simp [results, Tryz.f38, go_sem, clkV, a0, a1, a2, a3, f0, f1, f2, f3]) rfl ⟨by rw [HV1.out], ?_⟩
    exact below_set4 HB1.out (by omega) _ _ _ _
end Go.Proofs.YtnjaikomoljmjaaGreatDoor
namespace Lum
open Go Go.RowKit Go.Shelf
theorem chgT_cases (mf : Int → Int → Int × Int) (E R D L t : Int) :
    (∃ sh m, m = 0 ∧ chgT (fun R D => (R, D)) E R D L t true = ((sh, R, D, t), m) ∧ chgT mf E R D L t true = ((sh, (mf R D).1, (mf R D).2, t), m)) ∨
    (∃ m, m ≠ 0 ∧ chgT (fun R D => (R, D)) E R D L t true = ((0, 0, 0, 0), m) ∧ chgT mf E R D L t true = ((0, 0, 0, 0), m)) := by
  unfold chgT
  by_cases hz : moE E R D L t = 0
  · simp only [hz, ne_eq, not_true, if_false, if_neg (show ¬ (true = false) by simp)]
    cases rdB (shZ E R D L t)
    · right; exact ⟨24, by decide, by simp, by simp⟩
    · left; exact ⟨shZ E R D L t, 0, rfl, by simp, by simp⟩
  · right; exact ⟨_, hz, by simp [hz], by simp [hz]⟩
end Lum
namespace Go.Proofs.YtnjaikomoljmjaaGreatDoor
open Go.RowKit Go.Shelf Lum
attribute [local go_sem] bs_get bs_extract_end bs_extract_from bs_extract bs_append

set_option maxRecDepth 100000 in
set_option maxHeartbeats 1000000 in
theorem r23_turned (E R D L t z : Int) (w : World) : Calls Tryz.prog 106 #[.agg #[.int .i64 E, .int .i64 R, .int .i64 D, .int .i64 L], .int .i64 t, .int .i64 z] w fun e w' => e = .returned (.tuple #[clkV (chgT (fun R D => (R, z)) E R D L t true).1, .int .i64 (chgT (fun R D => (R, z)) E R D L t true).2]) ∧ Below w.heap.size w w' := by
  have hB := ((Below.refl w.heap.size w).alloc (Nat.le_refl _) (.cells #[.int .i64 E, .int .i64 R, .int .i64 D, .int .i64 L] 23)).alloc (by simp) (.cells #[.int .i64 0, .int .i64 0, .int .i64 0, .int .i64 0] 23)
  have hr := CBox.new (w.alloc (.cells #[.int .i64 E, .int .i64 R, .int .i64 D, .int .i64 L] 23)) 23 0 0 0 0
  have hf := (CBox.new w 23 E R D L).alloc (.cells #[.int .i64 0, .int .i64 0, .int .i64 0, .int .i64 0] 23)
  simp only [World.size_alloc] at hr hf
  have hm := fun W => r23_move E R D L t W
  obtain ⟨sh, m, rfl, e1, e2⟩ | ⟨m, hm0, e1, e2⟩ := chgT_cases (fun R D => (R, z)) E R D L t
  · rw [e1] at hm
    rw [e2]
    unfold clkV at hm
    dsimp only at hm
    have HM := Lib.hid hm; clear hm e1 e2
    go_enter Tryz.func106, Tryz.ntmps106
    go_wp2_with fail
    generalize (w.alloc (.cells #[.int .i64 E, .int .i64 R, .int .i64 D, .int .i64 L] 23)).alloc (.cells #[.int .i64 0, .int .i64 0, .int .i64 0, .int .i64 0] 23) = W0 at *
    have HR0 := Lib.hid hr; clear hr
    have HB0 := Lib.hid hB; clear hB
    obtain ⟨b0, b1, b2, b3, g0, g1, g2, g3, gt⟩ := hf
    refine (HM.out _).mono ?_
    rintro e w1 ⟨rfl, hb1⟩
    have hal := (Below.refl w1.heap.size w1).alloc (Nat.le_refl _) (.cells #[.int .i64 sh, .int .i64 R, .int .i64 z, .int .i64 t] 23)
    have hr1 := (HR0.out.keep hb1).keep hal
    have HB1 := Lib.hid (bch' (bch' HB0.out hb1) hal)
    have HBW := Lib.hid (bch' HB0.out hb1)
    obtain ⟨p0, p1, p2, p3, q0, q1, q2, q3, hlt1⟩ := HR0.out.keep hb1
    clear hb1 hal
    clear b0 b1 b2 b3 g0 g1 g2 g3 gt
    obtain ⟨a0, a1, a2, a3, f0, f1, f2, f3, lt⟩ := hr1
    go_wp2_with fail
    have hsz : w.heap.size + 1 < ((((w1.setCell ⟨w.heap.size + 1, 0, none⟩ (.int .i64 sh)).setCell ⟨w.heap.size + 1, 1, none⟩ (.int .i64 R)).setCell ⟨w.heap.size + 1, 2, none⟩ (.int .i64 z)).setCell ⟨w.heap.size + 1, 3, none⟩ (.int .i64 t)).heap.size := by simp; omega
    have he : ∀ (o : Obj) (i : Nat), (((((w1.setCell ⟨w.heap.size + 1, 0, none⟩ (.int .i64 sh)).setCell ⟨w.heap.size + 1, 1, none⟩ (.int .i64 R)).setCell ⟨w.heap.size + 1, 2, none⟩ (.int .i64 z)).setCell ⟨w.heap.size + 1, 3, none⟩ (.int .i64 t)).alloc o).cell? ⟨w.heap.size + 1, i, none⟩ = ((((w1.setCell ⟨w.heap.size + 1, 0, none⟩ (.int .i64 sh)).setCell ⟨w.heap.size + 1, 1, none⟩ (.int .i64 R)).setCell ⟨w.heap.size + 1, 2, none⟩ (.int .i64 z)).setCell ⟨w.heap.size + 1, 3, none⟩ (.int .i64 t)).cell? ⟨w.heap.size + 1, i, none⟩ := fun o i => World.cell?_alloc_lt _ o _ hsz
    refine bodyPost_ret_by (v := .tuple #[clkV (sh, R, z, t), .int .i64 0]) (by simp [results, Tryz.f106, go_sem, clkV, he, p0, p1, p2, p3, q0, q1, q2, q3]) rfl ⟨rfl, ?_⟩
    exact (below_set4 HBW.out (by omega) _ _ _ _).alloc (by simp; omega) _
  · rw [e1] at hm
    rw [e2]
    unfold clkV at hm
    dsimp only at hm
    have hne : ((m : Int) != 0) = true := by simpa using hm0
    have HM := Lib.hid hm; clear hm e1 e2 hm0
    go_enter Tryz.func106, Tryz.ntmps106
    go_wp2_with fail
    generalize (w.alloc (.cells #[.int .i64 E, .int .i64 R, .int .i64 D, .int .i64 L] 23)).alloc (.cells #[.int .i64 0, .int .i64 0, .int .i64 0, .int .i64 0] 23) = W0 at *
    have HR0 := Lib.hid hr; clear hr
    have HB0 := Lib.hid hB; clear hB
    obtain ⟨b0, b1, b2, b3, g0, g1, g2, g3, gt⟩ := hf
    refine (HM.out _).mono ?_
    rintro e w1 ⟨rfl, hb1⟩
    have hal := (Below.refl w1.heap.size w1).alloc (Nat.le_refl _) (.cells #[.int .i64 0, .int .i64 0, .int .i64 0, .int .i64 0] 23)
    have hr1 := (HR0.out.keep hb1).keep hal
    have HB1 := Lib.hid (bch' (bch' HB0.out hb1) hal)
    clear hb1 hal
    clear b0 b1 b2 b3 g0 g1 g2 g3 gt
    obtain ⟨a0, a1, a2, a3, f0, f1, f2, f3, lt⟩ := hr1
    go_wp2_with fail
    refine bodyPost_ret_by (v := .tuple #[clkV (0, 0, 0, 0), .int .i64 m]) (by simp [results, Tryz.f106, go_sem, clkV, a0, a1, a2, a3, f0, f1, f2, f3]) rfl ⟨rfl, ?_⟩
    exact below_set4 HB1.out (by omega) _ _ _ _
set_option maxRecDepth 100000 in
set_option maxHeartbeats 1000000 in
theorem r23_pause (E R D L t : Int) (w : World) : Calls Tryz.prog 39 #[.agg #[.int .i64 E, .int .i64 R, .int .i64 D, .int .i64 L], .int .i64 t] w fun e w' => e = .returned (.tuple #[clkV (chgT (fun R D => (R, 0)) E R D L t true).1, .int .i64 (chgT (fun R D => (R, 0)) E R D L t true).2]) ∧ Below w.heap.size w w' := by
  have hB := ((Below.refl w.heap.size w).alloc (Nat.le_refl _) (.cells #[.int .i64 E, .int .i64 R, .int .i64 D, .int .i64 L] 23)).alloc (by simp) (.cells #[.int .i64 0, .int .i64 0, .int .i64 0, .int .i64 0] 23)
  have hr := CBox.new (w.alloc (.cells #[.int .i64 E, .int .i64 R, .int .i64 D, .int .i64 L] 23)) 23 0 0 0 0
  have hf := (CBox.new w 23 E R D L).alloc (.cells #[.int .i64 0, .int .i64 0, .int .i64 0, .int .i64 0] 23)
  simp only [World.size_alloc] at hr hf
  have hm := fun W => r23_turned E R D L t 0 W
  generalize chgT (fun R D => (R, 0)) E R D L t true = v at *
  obtain ⟨⟨x0, x1, x2, x3⟩, m⟩ := v
  unfold clkV at hm
  dsimp only at hm
  have HM := Lib.hid hm; clear hm
  go_enter Tryz.func39, Tryz.ntmps39
  go_wp2_with fail
  generalize (w.alloc (.cells #[.int .i64 E, .int .i64 R, .int .i64 D, .int .i64 L] 23)).alloc (.cells #[.int .i64 0, .int .i64 0, .int .i64 0, .int .i64 0] 23) = W0 at *
  have HR0 := Lib.hid hr; clear hr
  have HB0 := Lib.hid hB; clear hB
  obtain ⟨b0, b1, b2, b3, g0, g1, g2, g3, gt⟩ := hf
  refine (HM.out _).mono ?_
  rintro e w1 ⟨rfl, hb1⟩
  have hr1 := HR0.out.keep hb1
  have HB1 := Lib.hid (bch' HB0.out hb1); clear hb1
  clear b0 b1 b2 b3 g0 g1 g2 g3 gt
  obtain ⟨a0, a1, a2, a3, f0, f1, f2, f3, lt⟩ := hr1
  go_wp2_with fail
  refine bodyPost_ret_by (v := .tuple #[clkV (x0, x1, x2, x3), .int .i64 m]) (by simp [results, Tryz.f39, go_sem, clkV, a0, a1, a2, a3, f0, f1, f2, f3]) rfl ⟨rfl, ?_⟩
  exact below_set4 HB1.out (by omega) _ _ _ _
set_option maxRecDepth 100000 in
set_option maxHeartbeats 1000000 in
theorem r23_resume (E R D L t : Int) (w : World) : Calls Tryz.prog 41 #[.agg #[.int .i64 E, .int .i64 R, .int .i64 D, .int .i64 L], .int .i64 t] w fun e w' => e = .returned (.tuple #[clkV (chgT (fun R D => (R, 1)) E R D L t true).1, .int .i64 (chgT (fun R D => (R, 1)) E R D L t true).2]) ∧ Below w.heap.size w w' := by
  have hB := ((Below.refl w.heap.size w).alloc (Nat.le_refl _) (.cells #[.int .i64 E, .int .i64 R, .int .i64 D, .int .i64 L] 23)).alloc (by simp) (.cells #[.int .i64 0, .int .i64 0, .int .i64 0, .int .i64 0] 23)
  have hr := CBox.new (w.alloc (.cells #[.int .i64 E, .int .i64 R, .int .i64 D, .int .i64 L] 23)) 23 0 0 0 0
  have hf := (CBox.new w 23 E R D L).alloc (.cells #[.int .i64 0, .int .i64 0, .int .i64 0, .int .i64 0] 23)
  simp only [World.size_alloc] at hr hf
  have hm := fun W => r23_turned E R D L t 1 W
  generalize chgT (fun R D => (R, 1)) E R D L t true = v at *
  obtain ⟨⟨x0, x1, x2, x3⟩, m⟩ := v
  unfold clkV at hm
  dsimp only at hm
  have HM := Lib.hid hm; clear hm
  go_enter Tryz.func41, Tryz.ntmps41
  go_wp2_with fail
  generalize (w.alloc (.cells #[.int .i64 E, .int .i64 R, .int .i64 D, .int .i64 L] 23)).alloc (.cells #[.int .i64 0, .int .i64 0, .int .i64 0, .int .i64 0] 23) = W0 at *
  have HR0 := Lib.hid hr; clear hr
  have HB0 := Lib.hid hB; clear hB
  obtain ⟨b0, b1, b2, b3, g0, g1, g2, g3, gt⟩ := hf
  refine (HM.out _).mono ?_
  rintro e w1 ⟨rfl, hb1⟩
  have hr1 := HR0.out.keep hb1
  have HB1 := Lib.hid (bch' HB0.out hb1); clear hb1
  clear b0 b1 b2 b3 g0 g1 g2 g3 gt
  obtain ⟨a0, a1, a2, a3, f0, f1, f2, f3, lt⟩ := hr1
  go_wp2_with fail
  refine bodyPost_ret_by (v := .tuple #[clkV (x0, x1, x2, x3), .int .i64 m]) (by simp [results, Tryz.f41, go_sem, clkV, a0, a1, a2, a3, f0, f1, f2, f3]) rfl ⟨rfl, ?_⟩
  exact below_set4 HB1.out (by omega) _ _ _ _
set_option maxRecDepth 100000 in
set_option maxHeartbeats 1000000 in
theorem r23_reverse (E R D L t : Int) (w : World) : Calls Tryz.prog 42 #[.agg #[.int .i64 E, .int .i64 R, .int .i64 D, .int .i64 L], .int .i64 t] w fun e w' => e = .returned (.tuple #[clkV (chgT (fun R D => (R, (-1))) E R D L t true).1, .int .i64 (chgT (fun R D => (R, (-1))) E R D L t true).2]) ∧ Below w.heap.size w w' := by
  have hB := ((Below.refl w.heap.size w).alloc (Nat.le_refl _) (.cells #[.int .i64 E, .int .i64 R, .int .i64 D, .int .i64 L] 23)).alloc (by simp) (.cells #[.int .i64 0, .int .i64 0, .int .i64 0, .int .i64 0] 23)
  have hr := CBox.new (w.alloc (.cells #[.int .i64 E, .int .i64 R, .int .i64 D, .int .i64 L] 23)) 23 0 0 0 0
  have hf := (CBox.new w 23 E R D L).alloc (.cells #[.int .i64 0, .int .i64 0, .int .i64 0, .int .i64 0] 23)
  simp only [World.size_alloc] at hr hf
  have hm := fun W => r23_turned E R D L t (-1) W
  generalize chgT (fun R D => (R, (-1))) E R D L t true = v at *
  obtain ⟨⟨x0, x1, x2, x3⟩, m⟩ := v
  unfold clkV at hm
  dsimp only at hm
  have HM := Lib.hid hm; clear hm
  go_enter Tryz.func42, Tryz.ntmps42
  go_wp2_with fail
  generalize (w.alloc (.cells #[.int .i64 E, .int .i64 R, .int .i64 D, .int .i64 L] 23)).alloc (.cells #[.int .i64 0, .int .i64 0, .int .i64 0, .int .i64 0] 23) = W0 at *
  have HR0 := Lib.hid hr; clear hr
  have HB0 := Lib.hid hB; clear hB
  obtain ⟨b0, b1, b2, b3, g0, g1, g2, g3, gt⟩ := hf
  refine (HM.out _).mono ?_
  rintro e w1 ⟨rfl, hb1⟩
  have hr1 := HR0.out.keep hb1
  have HB1 := Lib.hid (bch' HB0.out hb1); clear hb1
  clear b0 b1 b2 b3 g0 g1 g2 g3 gt
  obtain ⟨a0, a1, a2, a3, f0, f1, f2, f3, lt⟩ := hr1
  go_wp2_with fail
  refine bodyPost_ret_by (v := .tuple #[clkV (x0, x1, x2, x3), .int .i64 m]) (by simp [results, Tryz.f42, go_sem, clkV, a0, a1, a2, a3, f0, f1, f2, f3]) rfl ⟨rfl, ?_⟩
  exact below_set4 HB1.out (by omega) _ _ _ _
end Go.Proofs.YtnjaikomoljmjaaGreatDoor
namespace Lum
open Go Go.RowKit Go.Shelf
theorem wiB_false (n lo hi : Int) : wiB n lo hi = false ↔ n < lo ∨ hi < n := by
  cases h : wiB n lo hi
  · simp [wiB] at h; simp; omega
  · simp [wiB] at h; simp; omega
theorem chgT_rate_bad (mf : Int → Int → Int × Int) (E R D L t : Int) : chgT mf E R D L t false = ((0, 0, 0, 0), if moE E R D L t = 0 then 2 else moE E R D L t) := by
  unfold chgT
  by_cases h : moE E R D L t = 0 <;> simp [h]
end Lum
namespace Go.Proofs.YtnjaikomoljmjaaGreatDoor
open Go.RowKit Go.Shelf Lum
attribute [local go_sem] bs_get bs_extract_end bs_extract_from bs_extract bs_append

set_option maxRecDepth 100000 in
set_option maxHeartbeats 1000000 in
theorem r23_rate (E R D L t z : Int) (w : World) : Calls Tryz.prog 43 #[.agg #[.int .i64 E, .int .i64 R, .int .i64 D, .int .i64 L], .int .i64 t, .int .i64 z] w fun e w' => e = .returned (.tuple #[clkV (chgT (fun R D => (z, D)) E R D L t (wiB z 1 400)).1, .int .i64 (chgT (fun R D => (z, D)) E R D L t (wiB z 1 400)).2]) ∧ Below w.heap.size w w' := by
  have hB := ((Below.refl w.heap.size w).alloc (Nat.le_refl _) (.cells #[.int .i64 E, .int .i64 R, .int .i64 D, .int .i64 L] 23)).alloc (by simp) (.cells #[.int .i64 0, .int .i64 0, .int .i64 0, .int .i64 0] 23)
  have hr := CBox.new (w.alloc (.cells #[.int .i64 E, .int .i64 R, .int .i64 D, .int .i64 L] 23)) 23 0 0 0 0
  have hf := (CBox.new w 23 E R D L).alloc (.cells #[.int .i64 0, .int .i64 0, .int .i64 0, .int .i64 0] 23)
  simp only [World.size_alloc] at hr hf
  have hm := fun W => r23_moment E R D L t W
  by_cases hz : moE E R D L t = 0
  · rw [hz] at hm
    have HM := Lib.hid hm; clear hm
    cases hk : wiB z 1 400
    · rw [chgT_rate_bad, if_pos hz]
      have hk' := (wiB_false _ _ _).1 hk
      clear hz hk
      go_enter Tryz.func43, Tryz.ntmps43
      go_wp2_with fail
      generalize (w.alloc (.cells #[.int .i64 E, .int .i64 R, .int .i64 D, .int .i64 L] 23)).alloc (.cells #[.int .i64 0, .int .i64 0, .int .i64 0, .int .i64 0] 23) = W0 at *
      have HR0 := Lib.hid hr; clear hr
      have HB0 := Lib.hid hB; clear hB
      obtain ⟨b0, b1, b2, b3, g0, g1, g2, g3, gt⟩ := hf
      refine (HM.out _).mono ?_
      rintro e w1 ⟨rfl, hb1⟩
      have hr1 := HR0.out.keep hb1
      have HB1 := Lib.hid (bch' HB0.out hb1); clear hb1
      clear b0 b1 b2 b3 g0 g1 g2 g3 gt
      obtain ⟨a0, a1, a2, a3, f0, f1, f2, f3, lt⟩ := hr1
      by_cases h1 : z < 1
      · have d1 : decide (z < 1) = true := by simpa using h1
        clear h1 hk'
        go_wp2_with fail
        refine bodyPost_ret_by (v := .tuple #[clkV (0, 0, 0, 0), .int .i64 2]) (by simp [results, Tryz.f43, go_sem, clkV, a0, a1, a2, a3, f0, f1, f2, f3]) rfl ⟨rfl, ?_⟩
        exact below_set4 HB1.out (by omega) _ _ _ _
      · have d1 : decide (z < 1) = false := by simpa using h1
        have d2 : decide (400 < z) = true := by simp; omega
        clear h1 hk'
        go_wp2_with fail
        refine bodyPost_ret_by (v := .tuple #[clkV (0, 0, 0, 0), .int .i64 2]) (by simp [results, Tryz.f43, go_sem, clkV, a0, a1, a2, a3, f0, f1, f2, f3]) rfl ⟨rfl, ?_⟩
        exact below_set4 HB1.out (by omega) _ _ _ _
    · have hk' := (wiB_iff _ _ _).1 hk
      have d1 : decide (z < 1) = false := by simp; omega
      have d2 : decide (400 < z) = false := by simp; omega
      have hmv := fun W => r23_move E R D L t W
      clear hz hk hk'
      obtain ⟨sh, m, rfl, e1, e2⟩ | ⟨m, hm0, e1, e2⟩ := chgT_cases (fun R D => (z, D)) E R D L t
      · rw [e1] at hmv
        rw [e2]
        unfold clkV at hmv
        dsimp only at hmv
        have HMV := Lib.hid hmv; clear hmv e1 e2
        go_enter Tryz.func43, Tryz.ntmps43
        go_wp2_with fail
        generalize (w.alloc (.cells #[.int .i64 E, .int .i64 R, .int .i64 D, .int .i64 L] 23)).alloc (.cells #[.int .i64 0, .int .i64 0, .int .i64 0, .int .i64 0] 23) = W0 at *
        have HR0 := Lib.hid hr; clear hr
        have HF0 := Lib.hid hf
        have HB0 := Lib.hid hB; clear hB
        obtain ⟨b0, b1, b2, b3, g0, g1, g2, g3, gt⟩ := hf
        refine (HM.out _).mono ?_
        rintro e w1 ⟨rfl, hb1⟩
        have HR1 := Lib.hid (HR0.out.keep hb1)
        have hf1 := HF0.out.keep hb1
        have HB1 := Lib.hid (bch' HB0.out hb1); clear hb1
        clear b0 b1 b2 b3 g0 g1 g2 g3 gt
        obtain ⟨b0, b1, b2, b3, g0, g1, g2, g3, gt⟩ := hf1
        go_wp2_with fail
        refine (HMV.out _).mono ?_
        rintro e w2 ⟨rfl, hb2⟩
        have hal := (Below.refl w2.heap.size w2).alloc (Nat.le_refl _) (.cells #[.int .i64 sh, .int .i64 z, .int .i64 D, .int .i64 t] 23)
        have hr2 := (HR1.out.keep hb2).keep hal
        have HBW := Lib.hid (bch' HB1.out hb2)
        obtain ⟨p0, p1, p2, p3, q0, q1, q2, q3, hlt1⟩ := HR1.out.keep hb2
        clear hb2 hal
        clear b0 b1 b2 b3 g0 g1 g2 g3 gt
        obtain ⟨a0, a1, a2, a3, f0, f1, f2, f3, lt⟩ := hr2
        go_wp2_with fail
        have hsz : w.heap.size + 1 < ((((w2.setCell ⟨w.heap.size + 1, 0, none⟩ (.int .i64 sh)).setCell ⟨w.heap.size + 1, 1, none⟩ (.int .i64 z)).setCell ⟨w.heap.size + 1, 2, none⟩ (.int .i64 D)).setCell ⟨w.heap.size + 1, 3, none⟩ (.int .i64 t)).heap.size := by simp; omega
        have he : ∀ (o : Obj) (i : Nat), (((((w2.setCell ⟨w.heap.size + 1, 0, none⟩ (.int .i64 sh)).setCell ⟨w.heap.size + 1, 1, none⟩ (.int .i64 z)).setCell ⟨w.heap.size + 1, 2, none⟩ (.int .i64 D)).setCell ⟨w.heap.size + 1, 3, none⟩ (.int .i64 t)).alloc o).cell? ⟨w.heap.size + 1, i, none⟩ = ((((w2.setCell ⟨w.heap.size + 1, 0, none⟩ (.int .i64 sh)).setCell ⟨w.heap.size + 1, 1, none⟩ (.int .i64 z)).setCell ⟨w.heap.size + 1, 2, none⟩ (.int .i64 D)).setCell ⟨w.heap.size + 1, 3, none⟩ (.int .i64 t)).cell? ⟨w.heap.size + 1, i, none⟩ := fun o i => World.cell?_alloc_lt _ o _ hsz
        refine bodyPost_ret_by (v := .tuple #[clkV (sh, z, D, t), .int .i64 0]) (by simp [results, Tryz.f43, go_sem, clkV, he, p0, p1, p2, p3, q0, q1, q2, q3]) rfl ⟨rfl, ?_⟩
        exact (below_set4 HBW.out (by omega) _ _ _ _).alloc (by simp; omega) _
      · rw [e1] at hmv
        rw [e2]
        unfold clkV at hmv
        dsimp only at hmv
        have hne : ((m : Int) != 0) = true := by simpa using hm0
        have HMV := Lib.hid hmv; clear hmv e1 e2 hm0
        go_enter Tryz.func43, Tryz.ntmps43
        go_wp2_with fail
        generalize (w.alloc (.cells #[.int .i64 E, .int .i64 R, .int .i64 D, .int .i64 L] 23)).alloc (.cells #[.int .i64 0, .int .i64 0, .int .i64 0, .int .i64 0] 23) = W0 at *
        have HR0 := Lib.hid hr; clear hr
        have HF0 := Lib.hid hf
        have HB0 := Lib.hid hB; clear hB
        obtain ⟨b0, b1, b2, b3, g0, g1, g2, g3, gt⟩ := hf
        refine (HM.out _).mono ?_
        rintro e w1 ⟨rfl, hb1⟩
        have HR1 := Lib.hid (HR0.out.keep hb1)
        have hf1 := HF0.out.keep hb1
        have HB1 := Lib.hid (bch' HB0.out hb1); clear hb1
        clear b0 b1 b2 b3 g0 g1 g2 g3 gt
        obtain ⟨b0, b1, b2, b3, g0, g1, g2, g3, gt⟩ := hf1
        go_wp2_with fail
        refine (HMV.out _).mono ?_
        rintro e w2 ⟨rfl, hb2⟩
        have hal := (Below.refl w2.heap.size w2).alloc (Nat.le_refl _) (.cells #[.int .i64 0, .int .i64 0, .int .i64 0, .int .i64 0] 23)
        have hr2 := (HR1.out.keep hb2).keep hal
        have HB2 := Lib.hid (bch' (bch' HB1.out hb2) hal)
        clear hb2 hal
        clear b0 b1 b2 b3 g0 g1 g2 g3 gt
        obtain ⟨a0, a1, a2, a3, f0, f1, f2, f3, lt⟩ := hr2
        go_wp2_with fail
        refine bodyPost_ret_by (v := .tuple #[clkV (0, 0, 0, 0), .int .i64 m]) (by simp [results, Tryz.f43, go_sem, clkV, a0, a1, a2, a3, f0, f1, f2, f3]) rfl ⟨rfl, ?_⟩
        exact below_set4 HB2.out (by omega) _ _ _ _
  · have ev : chgT (fun R D => (z, D)) E R D L t (wiB z 1 400) = ((0, 0, 0, 0), moE E R D L t) := by unfold chgT; rw [if_pos (by simpa using hz)]
    rw [ev]
    have hne : ((moE E R D L t : Int) != 0) = true := by simpa using hz
    generalize moE E R D L t = m at *
    have HM := Lib.hid hm; clear hm hz ev
    go_enter Tryz.func43, Tryz.ntmps43
    go_wp2_with fail
    generalize (w.alloc (.cells #[.int .i64 E, .int .i64 R, .int .i64 D, .int .i64 L] 23)).alloc (.cells #[.int .i64 0, .int .i64 0, .int .i64 0, .int .i64 0] 23) = W0 at *
    have HR0 := Lib.hid hr; clear hr
    have HF0 := Lib.hid hf
    have HB0 := Lib.hid hB; clear hB
    obtain ⟨b0, b1, b2, b3, g0, g1, g2, g3, gt⟩ := hf
    refine (HM.out _).mono ?_
    rintro e w1 ⟨rfl, hb1⟩
    have HR1 := Lib.hid (HR0.out.keep hb1)
    have hf1 := HF0.out.keep hb1
    have HB1 := Lib.hid (bch' HB0.out hb1); clear hb1
    clear b0 b1 b2 b3 g0 g1 g2 g3 gt
    obtain ⟨b0, b1, b2, b3, g0, g1, g2, g3, gt⟩ := hf1
    clear b0 b1 b2 b3 g0 g1 g2 g3 gt
    obtain ⟨a0, a1, a2, a3, f0, f1, f2, f3, lt⟩ := HR1.out
    go_wp2_with fail
    refine bodyPost_ret_by (v := .tuple #[clkV (0, 0, 0, 0), .int .i64 m]) (by simp [results, Tryz.f43, go_sem, clkV, a0, a1, a2, a3, f0, f1, f2, f3]) rfl ⟨rfl, ?_⟩
    exact below_set4 HB1.out (by omega) _ _ _ _
end Go.Proofs.YtnjaikomoljmjaaGreatDoor
