/-
  Reference clock: Back, Coming, When.
-/
import Derived.Test.YtnjaikomoljmjaaGreatDoorKg
import Derived.Test.YtnjaikomoljmjaaGreatDoorRq5
set_option linter.unusedVariables false
set_option linter.unusedSimpArgs false
namespace Lum
open Go Go.RowKit Go.Shelf
open Go.Lib (decDigits itoa)
/-- What Coming gives. -/
def comT (E R D L tg : Int) : Txt × Bool := if tg - E ≠ 0 ∧ (tg - E) * D ≤ 0 then ([], false) else (showR ((L : Rat) + Rat.divInt (max (tg - E) (-(tg - E))) R), true)
theorem whenT_com (E R D L tg : Int) (h : ckB E R D L = true) (ht : rdB tg = true) : whenT E R D L tg = ((comT E R D L tg).1, (comT E R D L tg).2, 0) := by
  unfold whenT comT
  rw [h, ht, if_neg (by simp), if_neg (by simp)]
  split <;> rfl
end Lum
namespace Go.Proofs.YtnjaikomoljmjaaGreatDoor
open Go.RowKit Go.Shelf Lum
open Go.Lib (decDigits itoa)
attribute [local go_sem] bs_get bs_extract_end bs_extract_from bs_extract bs_append

set_option maxHeartbeats 2000000 in
theorem r23_back (E R D L b : Int) (w : World) : Calls Tryz.prog 45 #[.agg #[.int .i64 E, .int .i64 R, .int .i64 D, .int .i64 L], .int .i64 b] w fun e w' => e = .returned (.tuple #[clkV (backT E R D L b).1, .int .i64 (backT E R D L b).2]) ∧ Below w.heap.size w w' := by
  have hB := ((Below.refl w.heap.size w).alloc (Nat.le_refl _) (.cells #[.int .i64 E, .int .i64 R, .int .i64 D, .int .i64 L] 23)).alloc (by simp) (.cells #[.int .i64 0, .int .i64 0, .int .i64 0, .int .i64 0] 23)
  have hr := CBox.new (w.alloc (.cells #[.int .i64 E, .int .i64 R, .int .i64 D, .int .i64 L] 23)) 23 0 0 0 0
  have hx := (CBox.new w 23 E R D L).alloc (.cells #[.int .i64 0, .int .i64 0, .int .i64 0, .int .i64 0] 23)
  rw [World.size_alloc] at hr
  have hc := fun W => r23_check E R D L W
  unfold ckE at hc
  obtain ⟨v, hv⟩ : ∃ v, v = backT E R D L b := ⟨_, rfl⟩
  rw [← hv]
  unfold backT at hv
  cases hk : ckB E R D L
  · simp only [hk] at hc hv
    have HC := Lib.hid hc
    have HV : Hid (v = ((0, 0, 0, 0), 2)) := by show _ = _; rw [hv]; rfl
    clear hc hv hk
    go_enter Tryz.func45, Tryz.ntmps45
    go_wp2_with fail
    generalize (w.alloc (.cells #[.int .i64 E, .int .i64 R, .int .i64 D, .int .i64 L] 23)).alloc (.cells #[.int .i64 0, .int .i64 0, .int .i64 0, .int .i64 0] 23) = W0 at *
    refine (HC.out _).mono ?_
    rintro e w1 ⟨rfl, hb1⟩
    have hr1 := hr.keep hb1
    have HB := Lib.hid (bch' hB hb1); clear hb1 hB hr hx
    obtain ⟨a0, a1, a2, a3, f0, f1, f2, f3, lt⟩ := hr1
    go_wp2_with fail
    refine bodyPost_ret_by (v := .tuple #[clkV (0, 0, 0, 0), .int .i64 2]) (by simp [results, Tryz.f45, go_sem, clkV, a0, a1, a2, a3, f0, f1, f2, f3]) rfl ⟨by rw [HV.out], ?_⟩
    exact below_set4 HB.out (by omega) _ _ _ _
  · obtain ⟨hE, hL, hR, hD⟩ := (ckB_iff _ _ _ _).1 hk
    simp only [hk] at hc hv
    have hrd := fun W => r23_reading b W
    have HC := Lib.hid hc
    have HV1 : Hid (v = if rdB b = false then ((0, 0, 0, 0), 2) else ((max 0 (E - b), R, D, L), 0)) := by show _ = _; rw [hv]; rfl
    clear hc hv hk
    cases hk : rdB b
    · simp only [hk] at hrd
      have HRD := Lib.hid hrd; clear hrd
      have HV : Hid (v = ((0, 0, 0, 0), 2)) := by show _ = _; rw [HV1.out, if_pos hk]
      clear hk
      go_enter Tryz.func45, Tryz.ntmps45
      go_wp2_with fail
      generalize (w.alloc (.cells #[.int .i64 E, .int .i64 R, .int .i64 D, .int .i64 L] 23)).alloc (.cells #[.int .i64 0, .int .i64 0, .int .i64 0, .int .i64 0] 23) = W0 at *
      refine (HC.out _).mono ?_
      rintro e w1 ⟨rfl, hb1⟩
      have hr1 := hr.keep hb1
      have HB := Lib.hid (bch' hB hb1); clear hb1 hB hr hx
      obtain ⟨a0, a1, a2, a3, f0, f1, f2, f3, lt⟩ := hr1
      go_wp2_with fail
      refine (HRD.out _).mono ?_
      rintro e w' ⟨rfl, rfl⟩
      go_wp2_with fail
      refine bodyPost_ret_by (v := .tuple #[clkV (0, 0, 0, 0), .int .i64 2]) (by simp [results, Tryz.f45, go_sem, clkV, a0, a1, a2, a3, f0, f1, f2, f3]) rfl ⟨by rw [HV.out], ?_⟩
      exact below_set4 HB.out (by omega) _ _ _ _
    · simp only [hk] at hrd
      have HRD := Lib.hid hrd; clear hrd
      have HV : Hid (v = ((max 0 (E - b), R, D, L), 0)) := by show _ = _; rw [HV1.out, if_neg (by rw [hk]; simp)]
      have hb := (rdB_iff b).1 hk
      clear hk
      go_enter Tryz.func45, Tryz.ntmps45
      go_wp2_with fail
      generalize (w.alloc (.cells #[.int .i64 E, .int .i64 R, .int .i64 D, .int .i64 L] 23)).alloc (.cells #[.int .i64 0, .int .i64 0, .int .i64 0, .int .i64 0] 23) = W0 at *
      refine (HC.out _).mono ?_
      rintro e w1 ⟨rfl, hb1⟩
      have hr1 := hr.keep hb1
      have hx1 := hx.keep hb1
      have HB := Lib.hid (bch' hB hb1); clear hb1 hB hr hx
      obtain ⟨a0, a1, a2, a3, f0, f1, f2, f3, lt⟩ := hr1
      obtain ⟨b0, b1, b2, b3, g0, g1, g2, g3, gt⟩ := hx1
      go_wp2_with fail
      refine (HRD.out _).mono ?_
      rintro e w' ⟨rfl, rfl⟩
      go_wp2_with fail
      refine bodyPost_ret_by (v := .tuple #[clkV (max 0 (E - b), R, D, L), .int .i64 0]) (by simp [results, Tryz.f45, go_sem, clkV, a0, a1, a2, a3, f0, f1, f2, f3]) rfl ⟨by rw [HV.out], ?_⟩
      exact below_set4 (HB.out.setCell (p := ⟨w.heap.size, 0, none⟩) (Nat.le_refl _) _) (by omega) _ _ _ _
set_option maxRecDepth 100000 in
set_option maxHeartbeats 8000000 in
theorem r23_coming (E R D L tg : Int) (w : World) (hk : ckB E R D L = true) (ht : rdB tg = true) :
    Calls Tryz.prog 107 #[.agg #[.int .i64 E, .int .i64 R, .int .i64 D, .int .i64 L], .int .i64 tg] w fun e w' => e = .returned (.tuple #[.string ⟨((comT E R D L tg).1).toArray⟩, .bool ((comT E R D L tg).2)]) ∧ Below w.heap.size w w' := by
  obtain ⟨hE, hL, hR, hD⟩ := (ckB_iff _ _ _ _).1 hk
  have hb := (rdB_iff tg).1 ht
  have hB := (Below.refl w.heap.size w).alloc (Nat.le_refl _) (.cells #[.int .i64 E, .int .i64 R, .int .i64 D, .int .i64 L] 23)
  have hx := CBox.new w 23 E R D L
  unfold comT
  clear hk ht
  by_cases hn : tg - E ≠ 0 ∧ (tg - E) * D ≤ 0
  · rw [if_pos hn]
    have hcases : (tg < E ∧ (D = 1 ∨ D = 0)) ∨ (E < tg ∧ (D = -1 ∨ D = 0)) := by
      obtain ⟨n1, n2⟩ := hn
      rcases (show D = -1 ∨ D = 0 ∨ D = 1 by omega) with rfl | rfl | rfl
      · right; omega
      · omega
      · left; omega
    clear hn
    obtain ⟨b0, b1, b2, b3, g0, g1, g2, g3, gt⟩ := hx
    have HB := Lib.hid hB; clear hB
    rcases hcases with ⟨h1, rfl | rfl⟩ | ⟨h1, rfl | rfl⟩
    all_goals
      have h2 : ((tg - E : Int) != 0) = true := by rw [bne_iff_ne]; omega
      go_enter Tryz.func107, Tryz.ntmps107
      go_wp2
      go_ret2
      exact ⟨rfl, HB.out⟩
  · rw [if_neg hn]
    have hwh := fun W => r2_whole L W (by omega) (by omega)
    have hov := fun W => r2_over (max (tg - E) (-(tg - E))) R W (by omega) (by omega) (by omega) (by omega) (by omega)
    have hpl := fun W => r2_plus (L : Rat) (Rat.divInt (max (tg - E) (-(tg - E))) R) W ((fits_i64 L (by omega) (by omega)).mono (by omega)) ((fits_divInt_i64 _ R (by omega) (by omega) (by omega) (by omega)).mono (by omega))
    rw [showR_int] at hpl
    have HWH := Lib.hid hwh; clear hwh
    have HOV := Lib.hid hov; clear hov
    have HPL := Lib.hid hpl; clear hpl
    have hdec : tg = E ∨ (tg < E ∧ decide (E < tg) = false ∧ D = -1) ∨ (E < tg ∧ decide (E < tg) = true ∧ D = 1) := by
      rcases (show D = -1 ∨ D = 0 ∨ D = 1 by omega) with rfl | rfl | rfl
      · rcases (show tg = E ∨ tg < E ∨ E < tg by omega) with h | h | h
        · exact .inl h
        · exact .inr (.inl ⟨h, by rw [decide_eq_false_iff_not]; omega, rfl⟩)
        · exact absurd ⟨by omega, by omega⟩ hn
      · rcases (show tg = E ∨ tg ≠ E by omega) with h | h
        · exact .inl h
        · exact absurd ⟨by omega, by omega⟩ hn
      · rcases (show tg = E ∨ tg < E ∨ E < tg by omega) with h | h | h
        · exact .inl h
        · exact absurd ⟨by omega, by omega⟩ hn
        · exact .inr (.inr ⟨h, by rw [decide_eq_true_eq]; omega, rfl⟩)
    clear hn
    generalize showR (Rat.divInt (max (tg - E) (-(tg - E))) R) = ts at *
    generalize showR ((L : Rat) + Rat.divInt (max (tg - E) (-(tg - E))) R) = tr at *
    generalize itoa L = tl at *
    have hdec2 : (((tg - E : Int) != 0) = false) ∨ (((tg - E : Int) != 0) = true ∧ tg < E ∧ decide (E < tg) = false ∧ D = -1) ∨ (((tg - E : Int) != 0) = true ∧ E < tg ∧ decide (E < tg) = true ∧ D = 1) := by
      rcases hdec with h | ⟨h1, h3, h4⟩ | ⟨h1, h3, h4⟩
      · exact .inl (by simp; omega)
      · exact .inr (.inl ⟨by simp; omega, h1, h3, h4⟩)
      · exact .inr (.inr ⟨by simp; omega, h1, h3, h4⟩)
    clear hdec
    have hwr : IntKind.i64.wrap (-(tg - E)) = -(tg - E) := IntWalk.i64_in _ ⟨by omega, by omega⟩
    rcases hdec2 with h2 | ⟨h2, h1, h3, rfl⟩ | ⟨h2, h1, h3, rfl⟩
    · skip
      go_enter Tryz.func107, Tryz.ntmps107
      go_wp2_with fail
      generalize w.alloc (.cells #[.int .i64 E, .int .i64 R, .int .i64 D, .int .i64 L] 23) = W0 at *
      have HX := Lib.hid hx
      have HB := Lib.hid hB; clear hB
      obtain ⟨b0, b1, b2, b3, g0, g1, g2, g3, gt⟩ := hx
      have hS0 : Below w.heap.size w W0.drew ∧ W0.drew.cell? ⟨w.heap.size, 0, none⟩ = some (.int .i64 E) ∧ W0.drew.cell? ⟨w.heap.size, 1, none⟩ = some (.int .i64 R) ∧ W0.drew.cell? ⟨w.heap.size, 2, none⟩ = some (.int .i64 D) ∧ W0.drew.cell? ⟨w.heap.size, 3, none⟩ = some (.int .i64 L) := ⟨HB.out.drew, HX.out.a0, HX.out.a1, HX.out.a2, HX.out.a3⟩
      have HS0 := Lib.hid hS0; clear hS0
      go_region_held3 (fun W' => Below w.heap.size w W' ∧ W'.cell? ⟨w.heap.size, 0, none⟩ = some (.int .i64 E) ∧ W'.cell? ⟨w.heap.size, 1, none⟩ = some (.int .i64 R) ∧ W'.cell? ⟨w.heap.size, 2, none⟩ = some (.int .i64 D) ∧ W'.cell? ⟨w.heap.size, 3, none⟩ = some (.int .i64 L)) (first | assumption | exact HS0.out | exact keepC (by assumption) (by assumption)) (first | (go_at_call 32; refine (HWH.out _).mono ?_; rintro e w' ⟨rfl, hbw⟩) | (go_at_call 33; refine (HOV.out _).mono ?_; rintro e w' ⟨rfl, hbw⟩) | (go_at_call 31; refine (HPL.out _).mono ?_; rintro e w' ⟨rfl, hbw⟩))
      all_goals
        go_wp2_with fail
        go_ret2
        exact ⟨rfl, And.left (by assumption)⟩
    · skip
      go_enter Tryz.func107, Tryz.ntmps107
      go_wp2_with fail
      generalize w.alloc (.cells #[.int .i64 E, .int .i64 R, .int .i64 (-1), .int .i64 L] 23) = W0 at *
      have HX := Lib.hid hx
      have HB := Lib.hid hB; clear hB
      obtain ⟨b0, b1, b2, b3, g0, g1, g2, g3, gt⟩ := hx
      have hS0 : Below w.heap.size w W0.drew ∧ W0.drew.cell? ⟨w.heap.size, 0, none⟩ = some (.int .i64 E) ∧ W0.drew.cell? ⟨w.heap.size, 1, none⟩ = some (.int .i64 R) ∧ W0.drew.cell? ⟨w.heap.size, 2, none⟩ = some (.int .i64 (-1)) ∧ W0.drew.cell? ⟨w.heap.size, 3, none⟩ = some (.int .i64 L) := ⟨HB.out.drew, HX.out.a0, HX.out.a1, HX.out.a2, HX.out.a3⟩
      have HS0 := Lib.hid hS0; clear hS0
      go_region_held3 (fun W' => Below w.heap.size w W' ∧ W'.cell? ⟨w.heap.size, 0, none⟩ = some (.int .i64 E) ∧ W'.cell? ⟨w.heap.size, 1, none⟩ = some (.int .i64 R) ∧ W'.cell? ⟨w.heap.size, 2, none⟩ = some (.int .i64 (-1)) ∧ W'.cell? ⟨w.heap.size, 3, none⟩ = some (.int .i64 L)) (first | assumption | exact HS0.out | exact keepC (by assumption) (by assumption)) (first | (go_at_call 32; refine (HWH.out _).mono ?_; rintro e w' ⟨rfl, hbw⟩) | (go_at_call 33; refine (HOV.out _).mono ?_; rintro e w' ⟨rfl, hbw⟩) | (go_at_call 31; refine (HPL.out _).mono ?_; rintro e w' ⟨rfl, hbw⟩))
      all_goals
        go_wp2_with fail
        go_ret2
        exact ⟨rfl, And.left (by assumption)⟩
    · skip
      go_enter Tryz.func107, Tryz.ntmps107
      go_wp2_with fail
      generalize w.alloc (.cells #[.int .i64 E, .int .i64 R, .int .i64 1, .int .i64 L] 23) = W0 at *
      have HX := Lib.hid hx
      have HB := Lib.hid hB; clear hB
      obtain ⟨b0, b1, b2, b3, g0, g1, g2, g3, gt⟩ := hx
      have hS0 : Below w.heap.size w W0.drew ∧ W0.drew.cell? ⟨w.heap.size, 0, none⟩ = some (.int .i64 E) ∧ W0.drew.cell? ⟨w.heap.size, 1, none⟩ = some (.int .i64 R) ∧ W0.drew.cell? ⟨w.heap.size, 2, none⟩ = some (.int .i64 1) ∧ W0.drew.cell? ⟨w.heap.size, 3, none⟩ = some (.int .i64 L) := ⟨HB.out.drew, HX.out.a0, HX.out.a1, HX.out.a2, HX.out.a3⟩
      have HS0 := Lib.hid hS0; clear hS0
      go_region_held3 (fun W' => Below w.heap.size w W' ∧ W'.cell? ⟨w.heap.size, 0, none⟩ = some (.int .i64 E) ∧ W'.cell? ⟨w.heap.size, 1, none⟩ = some (.int .i64 R) ∧ W'.cell? ⟨w.heap.size, 2, none⟩ = some (.int .i64 1) ∧ W'.cell? ⟨w.heap.size, 3, none⟩ = some (.int .i64 L)) (first | assumption | exact HS0.out | exact keepC (by assumption) (by assumption)) (first | (go_at_call 32; refine (HWH.out _).mono ?_; rintro e w' ⟨rfl, hbw⟩) | (go_at_call 33; refine (HOV.out _).mono ?_; rintro e w' ⟨rfl, hbw⟩) | (go_at_call 31; refine (HPL.out _).mono ?_; rintro e w' ⟨rfl, hbw⟩))
      all_goals
        go_wp2_with fail
        go_ret2
        exact ⟨rfl, And.left (by assumption)⟩

set_option maxRecDepth 100000 in
set_option maxHeartbeats 2000000 in
theorem r23_when (E R D L tg : Int) (w : World) :
    Calls Tryz.prog 46 #[.agg #[.int .i64 E, .int .i64 R, .int .i64 D, .int .i64 L], .int .i64 tg] w fun e w' => e = .returned (.tuple #[.string ⟨((whenT E R D L tg).1).toArray⟩, .bool ((whenT E R D L tg).2.1), .int .i64 ((whenT E R D L tg).2.2)]) ∧ Below w.heap.size w w' := by
  have hB := (Below.refl w.heap.size w).alloc (Nat.le_refl _) (.cells #[.int .i64 E, .int .i64 R, .int .i64 D, .int .i64 L] 23)
  have hx := CBox.new w 23 E R D L
  have hc := fun W => r23_check E R D L W
  unfold ckE at hc
  have hrd := fun W => r23_reading tg W
  cases hk : ckB E R D L
  · rw [show whenT E R D L tg = ([], false, 2) by unfold whenT; rw [if_pos hk]]
    simp only [hk] at hc
    have HC := Lib.hid hc; clear hc hrd hk
    go_enter Tryz.func46, Tryz.ntmps46
    go_wp2_with fail
    refine (HC.out _).mono ?_
    rintro e w1 ⟨rfl, hb1⟩
    go_wp2
    go_ret3
    exact ⟨rfl, bch' hB hb1⟩
  · simp only [hk] at hc
    cases hk2 : rdB tg
    · rw [show whenT E R D L tg = ([], false, 2) by unfold whenT; rw [if_neg (by rw [hk]; simp), if_pos hk2]]
      simp only [hk2] at hrd
      have HC := Lib.hid hc; clear hc hk hk2
      have HRD := Lib.hid hrd; clear hrd
      go_enter Tryz.func46, Tryz.ntmps46
      go_wp2_with fail
      refine (HC.out _).mono ?_
      rintro e w1 ⟨rfl, hb1⟩
      go_wp2_with fail
      refine (HRD.out _).mono ?_
      rintro e w' ⟨rfl, rfl⟩
      go_wp2
      go_ret3
      exact ⟨rfl, bch' hB hb1⟩
    · rw [whenT_com _ _ _ _ _ hk hk2]
      simp only [hk2] at hrd
      have hcm := fun W => r23_coming E R D L tg W hk hk2
      generalize comT E R D L tg = v at *
      have HC := Lib.hid hc; clear hc hk hk2
      have HRD := Lib.hid hrd; clear hrd
      have HCM := Lib.hid hcm; clear hcm
      go_enter Tryz.func46, Tryz.ntmps46
      go_wp2_with fail
      generalize w.alloc (.cells #[.int .i64 E, .int .i64 R, .int .i64 D, .int .i64 L] 23) = W0 at *
      refine (HC.out _).mono ?_
      rintro e w1 ⟨rfl, hb1⟩
      have hx1 := hx.keep hb1
      have HB := Lib.hid (bch' hB hb1); clear hb1 hB hx
      obtain ⟨b0, b1, b2, b3, g0, g1, g2, g3, gt⟩ := hx1
      go_wp2_with fail
      refine (HRD.out _).mono ?_
      rintro e w' ⟨rfl, rfl⟩
      go_wp2_with fail
      refine (HCM.out _).mono ?_
      rintro e w2 ⟨rfl, hb2⟩
      replace HB := Lib.hid (bch' HB.out hb2); clear hb2
      go_wp2
      go_ret3
      exact ⟨rfl, HB.out⟩
end Go.Proofs.YtnjaikomoljmjaaGreatDoor
