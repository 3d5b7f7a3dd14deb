/-
  Numbers: sum, unequal signs.
-/
import Derived.Test.YtnjaikomoljmjaaGreatDoorNum3
set_option linter.unusedVariables false
set_option linter.unusedSimpArgs false
namespace Lum
open Go Go.RowKit Go.Shelf
/-- The first two numbers change places. -/
theorem Box3.swap {W : World} {B : Nat} {b1 b2 b3 : Bool} {p1 p2 p3 : Option Addr} {n1 c1 n2 c2 n3 c3 : Nat} (h : Box3 W B b1 p1 n1 c1 b2 p2 n2 c2 b3 p3 n3 c3) :
    Box3 ((((W.setCell ⟨B, 0, none⟩ (.bool b2)).setCell ⟨B, 1, none⟩ (.slice p2 n2 c2)).setCell ⟨B + 1, 0, none⟩ (.bool b1)).setCell ⟨B + 1, 1, none⟩ (.slice p1 n1 c1)) B b2 p2 n2 c2 b1 p1 n1 c1 b3 p3 n3 c3 := by
  obtain ⟨a0, a1, k0, k1, c0, c1, fa0, fa1, fb0, fb1, fc0, fc1, lt⟩ := h
  constructor <;> simp [go_sem, *]
theorem sum_abs (x y : Int) (h : decide (x < 0) ≠ decide (y < 0)) (hle : y.natAbs ≤ x.natAbs) : x.natAbs - y.natAbs = (x + y).natAbs ∧ (x + y < 0 ↔ x < 0 ∧ x.natAbs - y.natAbs ≠ 0) := by
  have : ¬ (x < 0 ↔ y < 0) := by rwa [ne_eq, decide_eq_decide] at h
  omega
end Lum
namespace Go.Proofs.YtnjaikomoljmjaaGreatDoor
open Go.RowKit Go.Shelf Lum
attribute [local go_sem] bs_get bs_extract_end bs_extract_from bs_extract bs_append

set_option maxHeartbeats 4000000 in
theorem num_sum_other (b1 b2 : Bool) (p1 p2 : Option Addr) (n1 c1 n2 c2 : Nat) (x y : Int) (w : World) (h1 : NumAt w b1 p1 n1 c1 x) (h2 : NumAt w b2 p2 n2 c2 y) (hn1 : n1 ≤ 50000) (hn2 : n2 ≤ 50000) (hne : b1 ≠ b2) :
    Calls Tryz.prog 149 #[.agg #[.bool b1, .slice p1 n1 c1], .agg #[.bool b2, .slice p2 n2 c2]] w fun e w' => ∃ b' p' n' c', e = .returned (.agg #[.bool b', .slice p' n' c']) ∧ NumAt w' b' p' n' c' (x + y) ∧ Below w.heap.size w w' := by
  have hs1 := h1.1
  have hs2 := h2.1
  have hC := fun W (hb : Below w.heap.size w W) => mag_compare p1 p2 n1 c1 n2 c2 x.natAbs y.natAbs W (h1.2.below hb) (h2.2.below hb) (by omega) (by omega)
  have hL1 := fun W (hb : Below w.heap.size w W) (hle : y.natAbs ≤ x.natAbs) => mag_less p1 p2 n1 c1 n2 c2 x.natAbs y.natAbs W (h1.2.below hb) (h2.2.below hb) (by omega) (by omega) hle
  have hL2 := fun W (hb : Below w.heap.size w W) (hle : x.natAbs ≤ y.natAbs) => mag_less p2 p1 n2 c2 n1 c1 y.natAbs x.natAbs W (h2.2.below hb) (h1.2.below hb) (by omega) (by omega) hle
  have hd : decide (x < 0) ≠ decide (y < 0) := by rw [← hs1, ← hs2]; exact hne
  have HD := Lib.hid hd; clear hd
  have HC := Lib.hid hC; clear hC
  have HL1 := Lib.hid hL1; clear hL1
  have HL2 := Lib.hid hL2; clear hL2
  have HS1 := Lib.hid hs1; clear hs1
  have HS2 := Lib.hid hs2; clear hs2 h1 h2
  have hB := (((Below.refl w.heap.size w).alloc (Nat.le_refl _) (.cells #[.bool b1, .slice p1 n1 c1] 142)).alloc (by simp) (.cells #[.bool b2, .slice p2 n2 c2] 142)).alloc (by simp; omega) (.cells #[.bool false, .slice none 0 0] 142)
  have bx := Box3.new w 142 b1 b2 false p1 p2 none n1 c1 n2 c2 0 0
  have hbq : (b1 == b2) = false := by simpa using hne
  have hmf : ∀ (fn : Fn) (first cap : Array Value) (w : World), (Instr.makeFunc fn first cap).run Tryz.prog w = .ok (.func fn first cap) w := fun _ _ _ _ => rfl
  go_enter Tryz.func149, Tryz.ntmps149
  go_wp2_with fail
  generalize ((w.alloc (.cells #[.bool b1, .slice p1 n1 c1] 142)).alloc (.cells #[.bool b2, .slice p2 n2 c2] 142)).alloc (.cells #[.bool false, .slice none 0 0] 142) = W0 at *
  refine (HC.out _ hB).mono ?_
  rintro e w4 ⟨z, rfl, hz, hb4⟩
  have hlt0 := bx.lt
  have bx4 := bx.below hb4 hlt0
  have hB4 := bch' hB hb4
  have hz0 : w.heap.size + 1 + 1 < w4.heap.size := bx4.lt
  clear hB bx hlt0 hb4
  by_cases hlt : x.natAbs < y.natAbs
  · have hzn : z < 0 := by unfold SgnOf at hz; omega
    have HL := Lib.hid hlt; clear hlt hz
    have bx5 := bx4.swap
    have hB5 := (((hB4.setCell (p := ⟨w.heap.size, 0, none⟩) (Nat.le_refl _) (.bool b2)).setCell (p := ⟨w.heap.size, 1, none⟩) (Nat.le_refl _) (.slice p2 n2 c2)).setCell (p := ⟨w.heap.size + 1, 0, none⟩) (by simp) (.bool b1)).setCell (p := ⟨w.heap.size + 1, 1, none⟩) (by simp) (.slice p1 n1 c1)
    obtain ⟨W5, hW5⟩ : ∃ W5 : World, W5 = (((w4.setCell ⟨w.heap.size, 0, none⟩ (.bool b2)).setCell ⟨w.heap.size, 1, none⟩ (.slice p2 n2 c2)).setCell ⟨w.heap.size + 1, 0, none⟩ (.bool b1)).setCell ⟨w.heap.size + 1, 1, none⟩ (.slice p1 n1 c1) := ⟨_, rfl⟩
    rw [← hW5] at bx5 hB5
    have HW5 := Lib.hid hW5; clear hW5
    have HB5 := Lib.hid bx5
    have HBB5 := Lib.hid hB5
    obtain ⟨k1, k2, k3, k4, k5, k6, f1, f2, f3, f4, f5, f6, klt⟩ := bx4
    clear bx5 hB5 hB4
    go_wp2_with fail
    rw [← HW5.out]
    clear k1 k2 k3 k4 k5 k6 f1 f2 f3 f4 f5 f6 klt
    refine (HL2.out _ HBB5.out (Nat.le_of_lt HL.out)).mono ?_
    rintro e w6 ⟨p', n', c', rfl, hM, hb6⟩
    have HM := Lib.hid hM; clear hM
    have hlt6 := HB5.out.lt
    obtain ⟨g1, g2, g3, g4, g5, g6, e1, e2, e3, e4, e5, e6, glt⟩ := HB5.out.below hb6 hlt6
    have HB6 := Lib.hid (bch' HBB5.out hb6); clear hb6
    have hx := sum_abs y x (fun h => HD.out h.symm) (Nat.le_of_lt HL.out)
    have HX := Lib.hid hx; clear hx
    have hn0 : n' = 0 ↔ y.natAbs - x.natAbs = 0 := by rw [HM.out.n, magL_nil]
    have HN0 := Lib.hid hn0; clear hn0
    have HRES : Hid (∀ b', (b' = true ↔ x + y < 0) → NumAt ((w6.setCell ⟨w.heap.size + 1 + 1, 0, none⟩ (.bool b')).setCell ⟨w.heap.size + 1 + 1, 1, none⟩ (.slice p' n' c')) b' p' n' c' (x + y) ∧ Below w.heap.size w ((w6.setCell ⟨w.heap.size + 1 + 1, 0, none⟩ (.bool b')).setCell ⟨w.heap.size + 1 + 1, 1, none⟩ (.slice p' n' c'))) := by
      intro b' hb'
      refine ⟨⟨by rw [Bool.eq_iff_iff, hb']; simp, ?_⟩, (HB6.out.setCell (p := ⟨w.heap.size + 1 + 1, 0, none⟩) (by simp; omega) _).setCell (p := ⟨w.heap.size + 1 + 1, 1, none⟩) (by simp; omega) _⟩
      have hh : y.natAbs - x.natAbs = (x + y).natAbs := by have := HX.out.1; rw [Int.add_comm y x] at this; exact this
      rw [← hh]
      exact magSet2 HM.out g5 g6 _ _
    cases b2
    · go_wp2_with fail
      refine bodyPost_ret_by (v := .agg #[.bool false, .slice p' n' c']) (by simp [results, Tryz.f149, go_sem, g5, g6]) rfl ?_
      exact ⟨_, _, _, _, rfl, HRES.out _ (by have h1 := HS2.out; have h2 : ¬ y < 0 := by simpa using h1.symm
                                             have h3 := HX.out.2; rw [Int.add_comm y x] at h3
                                             simp only [Bool.false_eq_true, false_iff]; omega)⟩
    · go_wp2_with fail
      refine bodyPost_ret_by (v := .agg #[.bool (decide (0 < n')), .slice p' n' c']) (by simp [results, Tryz.f149, go_sem, g5, g6]) rfl ?_
      exact ⟨_, _, _, _, rfl, HRES.out _ (by have h1 := HS2.out; have h2 : y < 0 := by simpa using h1.symm
                                             have h3 := HX.out.2; rw [Int.add_comm y x] at h3
                                             have h4 := HN0.out
                                             rw [decide_eq_true_eq]; omega)⟩
  · have hzn : ¬ z < 0 := by unfold SgnOf at hz; omega
    have hle : y.natAbs ≤ x.natAbs := by omega
    have HL := Lib.hid hle; clear hle hlt hz
    have HB4 := Lib.hid bx4
    have HBB4 := Lib.hid hB4
    obtain ⟨k1, k2, k3, k4, k5, k6, f1, f2, f3, f4, f5, f6, klt⟩ := bx4
    clear hB4
    go_wp2_with fail
    clear k1 k2 k3 k4 k5 k6 f1 f2 f3 f4 f5 f6 klt
    refine (HL1.out _ HBB4.out HL.out).mono ?_
    rintro e w6 ⟨p', n', c', rfl, hM, hb6⟩
    have HM := Lib.hid hM; clear hM
    have hlt6 := HB4.out.lt
    obtain ⟨g1, g2, g3, g4, g5, g6, e1, e2, e3, e4, e5, e6, glt⟩ := HB4.out.below hb6 hlt6
    have HB6 := Lib.hid (bch' HBB4.out hb6); clear hb6
    have hx := sum_abs x y HD.out HL.out
    have HX := Lib.hid hx; clear hx
    have hn0 : n' = 0 ↔ x.natAbs - y.natAbs = 0 := by rw [HM.out.n, magL_nil]
    have HN0 := Lib.hid hn0; clear hn0
    have HRES : Hid (∀ b', (b' = true ↔ x + y < 0) → NumAt ((w6.setCell ⟨w.heap.size + 1 + 1, 0, none⟩ (.bool b')).setCell ⟨w.heap.size + 1 + 1, 1, none⟩ (.slice p' n' c')) b' p' n' c' (x + y) ∧ Below w.heap.size w ((w6.setCell ⟨w.heap.size + 1 + 1, 0, none⟩ (.bool b')).setCell ⟨w.heap.size + 1 + 1, 1, none⟩ (.slice p' n' c'))) := by
      intro b' hb'
      refine ⟨⟨by rw [Bool.eq_iff_iff, hb']; simp, ?_⟩, (HB6.out.setCell (p := ⟨w.heap.size + 1 + 1, 0, none⟩) (by simp; omega) _).setCell (p := ⟨w.heap.size + 1 + 1, 1, none⟩) (by simp; omega) _⟩
      have hh : x.natAbs - y.natAbs = (x + y).natAbs := HX.out.1
      rw [← hh]
      exact magSet2 HM.out g5 g6 _ _
    cases b1
    · go_wp2_with fail
      refine bodyPost_ret_by (v := .agg #[.bool false, .slice p' n' c']) (by simp [results, Tryz.f149, go_sem, g5, g6]) rfl ?_
      exact ⟨_, _, _, _, rfl, HRES.out _ (by have h1 := HS1.out; have h2 : ¬ x < 0 := by simpa using h1.symm
                                             have h3 := HX.out.2
                                             simp only [Bool.false_eq_true, false_iff]; omega)⟩
    · go_wp2_with fail
      refine bodyPost_ret_by (v := .agg #[.bool (decide (0 < n')), .slice p' n' c']) (by simp [results, Tryz.f149, go_sem, g5, g6]) rfl ?_
      exact ⟨_, _, _, _, rfl, HRES.out _ (by have h1 := HS1.out; have h2 : x < 0 := by simpa using h1.symm
                                             have h3 := HX.out.2
                                             have h4 := HN0.out
                                             rw [decide_eq_true_eq]; omega)⟩
theorem num_sum (b1 b2 : Bool) (p1 p2 : Option Addr) (n1 c1 n2 c2 : Nat) (x y : Int) (w : World) (h1 : NumAt w b1 p1 n1 c1 x) (h2 : NumAt w b2 p2 n2 c2 y) (hn1 : n1 ≤ 50000) (hn2 : n2 ≤ 50000) :
    Calls Tryz.prog 149 #[.agg #[.bool b1, .slice p1 n1 c1], .agg #[.bool b2, .slice p2 n2 c2]] w fun e w' => ∃ b' p' n' c', e = .returned (.agg #[.bool b', .slice p' n' c']) ∧ NumAt w' b' p' n' c' (x + y) ∧ Below w.heap.size w w' := by
  by_cases h : b1 = b2
  · subst h
    exact num_sum_same b1 p1 p2 n1 c1 n2 c2 x y w h1 h2 hn1 hn2
  · exact num_sum_other b1 b2 p1 p2 n1 c1 n2 c2 x y w h1 h2 hn1 hn2 h
end Go.Proofs.YtnjaikomoljmjaaGreatDoor
