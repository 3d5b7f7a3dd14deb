/-
  Numbers: product.
-/
import Derived.Test.YtnjaikomoljmjaaGreatDoorNum1
set_option linter.unusedVariables false
set_option linter.unusedSimpArgs false
namespace Go.Proofs.YtnjaikomoljmjaaGreatDoor
open Go.RowKit Go.Shelf Lum
attribute [local go_sem] bs_get bs_extract_end bs_extract_from bs_extract bs_append

set_option maxHeartbeats 2000000 in
theorem num_product (b1 b2 : Bool) (p1 p2 : Option Addr) (n1 c1 n2 c2 : Nat) (x y : Int) (w : World) (h1 : NumAt w b1 p1 n1 c1 x) (h2 : NumAt w b2 p2 n2 c2 y) (hn1 : n1 ≤ 20000) (hn2 : n2 ≤ 20000) :
    Calls Tryz.prog 147 #[.agg #[.bool b1, .slice p1 n1 c1], .agg #[.bool b2, .slice p2 n2 c2]] w fun e w' => ∃ b' p' n' c', e = .returned (.agg #[.bool b', .slice p' n' c']) ∧ NumAt w' b' p' n' c' (x * y) ∧ Below w.heap.size w w' := by
  have hs1 := h1.1
  have hs2 := h2.1
  have HS1 := Lib.hid hs1; clear hs1
  have HS2 := Lib.hid hs2; clear hs2
  have hT := fun W (hb : Below w.heap.size w W) => mag_times p1 p2 n1 c1 n2 c2 x.natAbs y.natAbs W (h1.2.below hb) (h2.2.below hb) (by omega) (by omega)
  have HT := Lib.hid hT; clear hT h1 h2
  have hB := (((Below.refl w.heap.size w).alloc (Nat.le_refl _) (.cells #[.bool b1, .slice p1 n1 c1] 142)).alloc (by simp) (.cells #[.bool b2, .slice p2 n2 c2] 142)).alloc (by simp; omega) (.cells #[.bool false, .slice none 0 0] 142)
  obtain ⟨w1, hw1⟩ : ∃ w1 : World, w1 = ((w.alloc (.cells #[.bool b1, .slice p1 n1 c1] 142)).alloc (.cells #[.bool b2, .slice p2 n2 c2] 142)).alloc (.cells #[.bool false, .slice none 0 0] 142) := ⟨_, rfl⟩
  rw [← hw1] at hB
  have k1 : w1.cell? ⟨w.heap.size, 0, none⟩ = some (.bool b1) := by rw [hw1]; simp [go_sem]
  have k2 : w1.cell? ⟨w.heap.size + 1, 0, none⟩ = some (.bool b2) := by rw [hw1]; simp [go_sem]
  have k3 : w1.cell? ⟨w.heap.size + 1 + 1, 0, none⟩ = some (.bool false) := by rw [hw1]; simp [go_sem]
  have k4 : w1.cell? ⟨w.heap.size + 1 + 1, 1, none⟩ = some (.slice none 0 0) := by rw [hw1]; simp [go_sem]
  have f3 : w1.frozen? ⟨w.heap.size + 1 + 1, 0, none⟩ = false := by rw [hw1]; simp [go_sem]
  have f4 : w1.frozen? ⟨w.heap.size + 1 + 1, 1, none⟩ = false := by rw [hw1]; simp [go_sem]
  have k5 : w1.heap.size = w.heap.size + 3 := by rw [hw1]; simp
  go_enter Tryz.func147, Tryz.ntmps147
  go_wp2_with fail
  rw [← hw1]
  clear hw1
  refine (HT.out _ hB).mono ?_
  rintro e w2 ⟨p', n', c', rfl, hM, hb⟩
  have HM := Lib.hid hM; clear hM HT
  have j1 : w2.cell? ⟨w.heap.size, 0, none⟩ = some (.bool b1) := (hb.cell (p := ⟨w.heap.size, 0, none⟩) (by simp; omega)).trans k1
  have j2 : w2.cell? ⟨w.heap.size + 1, 0, none⟩ = some (.bool b2) := (hb.cell (p := ⟨w.heap.size + 1, 0, none⟩) (by simp; omega)).trans k2
  have j3 : w2.cell? ⟨w.heap.size + 1 + 1, 0, none⟩ = some (.bool false) := (hb.cell (p := ⟨w.heap.size + 1 + 1, 0, none⟩) (by simp; omega)).trans k3
  have j4 : w2.cell? ⟨w.heap.size + 1 + 1, 1, none⟩ = some (.slice none 0 0) := (hb.cell (p := ⟨w.heap.size + 1 + 1, 1, none⟩) (by simp; omega)).trans k4
  have g3 : w2.frozen? ⟨w.heap.size + 1 + 1, 0, none⟩ = false := (hb.frozen (p := ⟨w.heap.size + 1 + 1, 0, none⟩) (by simp; omega)).trans f3
  have g4 : w2.frozen? ⟨w.heap.size + 1 + 1, 1, none⟩ = false := (hb.frozen (p := ⟨w.heap.size + 1 + 1, 1, none⟩) (by simp; omega)).trans f4
  clear k1 k2 k3 k4 f3 f4
  have hb3 := bch' hB hb
  clear hB hb
  have res : ∀ b', NumAt ((w2.setCell ⟨w.heap.size + 1 + 1, 0, none⟩ (.bool b')).setCell ⟨w.heap.size + 1 + 1, 1, none⟩ (.slice p' n' c')) b' p' n' c' (x * y) ∨ b' ≠ decide (x * y < 0) := by
    intro b'
    by_cases h : b' = decide (x * y < 0)
    · exact .inl ⟨h, by rw [Int.natAbs_mul]; exact magSet2 HM.out j3 j4 _ _⟩
    · exact .inr h
  have hn0 : n' = 0 ↔ x * y = 0 := by rw [HM.out.n, magL_nil, ← Int.natAbs_mul]; omega
  have HN0 := Lib.hid hn0; clear hn0
  have HRES := Lib.hid res; clear res
  have bel : ∀ b', Below w.heap.size w ((w2.setCell ⟨w.heap.size + 1 + 1, 0, none⟩ (.bool b')).setCell ⟨w.heap.size + 1 + 1, 1, none⟩ (.slice p' n' c')) := fun b' => (hb3.setCell (p := ⟨w.heap.size + 1 + 1, 0, none⟩) (by simp; omega) _).setCell (p := ⟨w.heap.size + 1 + 1, 1, none⟩) (by simp; omega) _
  have HBEL := Lib.hid bel; clear bel
  have lem : ∀ b', (b' = decide (x * y < 0)) → NumAt ((w2.setCell ⟨w.heap.size + 1 + 1, 0, none⟩ (.bool b')).setCell ⟨w.heap.size + 1 + 1, 1, none⟩ (.slice p' n' c')) b' p' n' c' (x * y) := fun b' h => (HRES.out b').resolve_right (fun h2 => h2 h)
  have HLEM := Lib.hid lem; clear lem HRES
  have sgs : (b1 = b2 → 0 ≤ x * y) ∧ (b1 ≠ b2 → x * y ≤ 0) := by
    have e1 := HS1.out
    have e2 := HS2.out
    have d1 : x < 0 ∨ 0 ≤ x := by omega
    have d2 : y < 0 ∨ 0 ≤ y := by omega
    rcases d1 with d1 | d1 <;> rcases d2 with d2 | d2
    · refine ⟨fun _ => Int.mul_nonneg_of_nonpos_of_nonpos (by omega) (by omega), fun h => absurd ?_ h⟩
      rw [e1, e2]; simp [d1, d2]
    · refine ⟨fun h => ?_, fun _ => Int.mul_nonpos_of_nonpos_of_nonneg (by omega) d2⟩
      rw [e1, e2] at h; simp [d1] at h; omega
    · refine ⟨fun h => ?_, fun _ => Int.mul_nonpos_of_nonneg_of_nonpos d1 (by omega)⟩
      rw [e1, e2] at h; simp [d2] at h; omega
    · refine ⟨fun _ => Int.mul_nonneg d1 d2, fun h => absurd ?_ h⟩
      rw [e1, e2, decide_eq_decide]; omega
  have HSG := Lib.hid sgs; clear sgs
  clear HS1 HS2
  cases b1 <;> cases b2
  · go_wp2_with fail
    refine bodyPost_ret_by (v := .agg #[.bool false, .slice p' n' c']) (by simp [results, Tryz.f147, go_sem, j3, j4]) rfl ?_
    exact ⟨_, _, _, _, rfl, HLEM.out _ (by symm; rw [decide_eq_false_iff_not]; have := HSG.out.1 (by simp); omega), HBEL.out _⟩
  · go_wp2_with fail
    refine bodyPost_ret_by (v := .agg #[.bool (decide (0 < n')), .slice p' n' c']) (by simp [results, Tryz.f147, go_sem, j3, j4]) rfl ?_
    exact ⟨_, _, _, _, rfl, HLEM.out _ (by rw [decide_eq_decide]; have := HSG.out.2 (by simp); have := HN0.out; omega), HBEL.out _⟩
  · go_wp2_with fail
    refine bodyPost_ret_by (v := .agg #[.bool (decide (0 < n')), .slice p' n' c']) (by simp [results, Tryz.f147, go_sem, j3, j4]) rfl ?_
    exact ⟨_, _, _, _, rfl, HLEM.out _ (by rw [decide_eq_decide]; have := HSG.out.2 (by simp); have := HN0.out; omega), HBEL.out _⟩
  · go_wp2_with fail
    refine bodyPost_ret_by (v := .agg #[.bool false, .slice p' n' c']) (by simp [results, Tryz.f147, go_sem, j3, j4]) rfl ?_
    exact ⟨_, _, _, _, rfl, HLEM.out _ (by symm; rw [decide_eq_false_iff_not]; have := HSG.out.1 (by simp); omega), HBEL.out _⟩
end Go.Proofs.YtnjaikomoljmjaaGreatDoor
