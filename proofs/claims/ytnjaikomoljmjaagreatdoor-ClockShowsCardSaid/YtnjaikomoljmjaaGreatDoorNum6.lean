/-
  Numbers: quotient.
-/
import Derived.Test.YtnjaikomoljmjaaGreatDoorNum5
set_option linter.unusedVariables false
set_option linter.unusedSimpArgs false
namespace Go.Proofs.YtnjaikomoljmjaaGreatDoor
open Go.RowKit Go.Shelf Lum
attribute [local go_sem] bs_get bs_extract_end bs_extract_from bs_extract bs_append

set_option maxHeartbeats 4000000 in
theorem num_quotient_same (b : Bool) (p1 p2 : Option Addr) (n1 c1 n2 c2 : Nat) (x y : Int) (w : World) (h1 : NumAt w b p1 n1 c1 x) (h2 : NumAt w b p2 n2 c2 y) (hn1 : n1 ≤ 20000) (hn2 : n2 ≤ 20000) (hy : y ≠ 0) :
    Calls Tryz.prog 196 #[.agg #[.bool b, .slice p1 n1 c1], .agg #[.bool b, .slice p2 n2 c2]] w fun e w' => ∃ bq pq nq cq br pr nr cr, e = .returned (.tuple #[.agg #[.bool bq, .slice pq nq cq], .agg #[.bool br, .slice pr nr cr]]) ∧ NumAt w' bq pq nq cq (x.fdiv y) ∧ NumAt w' br pr nr cr (x.fmod y) ∧ Below w.heap.size w w' := by
  have hs2 := h2.1
  have hd : decide (x < 0) = decide (y < 0) := h1.1.symm.trans h2.1
  have hq := (quot_all x y hy).1 hd
  have hD := fun W (hb : Below w.heap.size w W) => mag_divided p1 p2 n1 c1 n2 c2 x.natAbs y.natAbs W (h1.2.below hb) (h2.2.below hb) (by omega) (by omega) (by omega)
  have HQ := Lib.hid hq; clear hq
  have HD := Lib.hid hD; clear hD hd
  have HS2 := Lib.hid hs2; clear hs2 h1 h2
  have hB := ((((Below.refl w.heap.size w).alloc (Nat.le_refl _) (.cells #[.bool b, .slice p1 n1 c1] 142)).alloc (by simp) (.cells #[.bool b, .slice p2 n2 c2] 142)).alloc (by simp; omega) (.cells #[.bool false, .slice none 0 0] 142)).alloc (by simp; omega) (.cells #[.bool false, .slice none 0 0] 142)
  have x1 := (((NBox.new w 142 b p1 n1 c1).alloc (.cells #[.bool b, .slice p2 n2 c2] 142)).alloc (.cells #[.bool false, .slice none 0 0] 142)).alloc (.cells #[.bool false, .slice none 0 0] 142)
  have x2 := ((NBox.new (w.alloc (.cells #[.bool b, .slice p1 n1 c1] 142)) 142 b p2 n2 c2).alloc (.cells #[.bool false, .slice none 0 0] 142)).alloc (.cells #[.bool false, .slice none 0 0] 142)
  have x3 := (NBox.new ((w.alloc (.cells #[.bool b, .slice p1 n1 c1] 142)).alloc (.cells #[.bool b, .slice p2 n2 c2] 142)) 142 false none 0 0).alloc (.cells #[.bool false, .slice none 0 0] 142)
  have x4 := NBox.new (((w.alloc (.cells #[.bool b, .slice p1 n1 c1] 142)).alloc (.cells #[.bool b, .slice p2 n2 c2] 142)).alloc (.cells #[.bool false, .slice none 0 0] 142)) 142 false none 0 0
  simp only [World.size_alloc] at x2 x3 x4
  have beq : (b != b) = false := by simp
  go_enter Tryz.func196, Tryz.ntmps196
  go_wp2_with fail
  generalize (((w.alloc (.cells #[.bool b, .slice p1 n1 c1] 142)).alloc (.cells #[.bool b, .slice p2 n2 c2] 142)).alloc (.cells #[.bool false, .slice none 0 0] 142)).alloc (.cells #[.bool false, .slice none 0 0] 142) = W0 at *
  refine (HD.out _ hB).mono ?_
  rintro e w1 ⟨pq, nq, cq, pr, nr, cr, rfl, hMq, hMr, hb1⟩
  have HMQ := Lib.hid hMq; clear hMq
  have HMR := Lib.hid hMr; clear hMr
  have hbz := bch' hB hb1
  have y1 := x1.keep hb1
  have y2 := x2.keep hb1
  have y3 := x3.keep hb1
  have y4 := x4.keep hb1
  have HBZ := Lib.hid hbz; clear hbz hB hb1 x1 x2 x3 x4
  have HRES := fun bq br eq er => quot_post (q := x.fdiv y) (r := x.fmod y) HBZ.out y3 y4 (by simp) (by omega) (by omega) (by rw [HQ.out.1]; exact HMQ.out) (by rw [HQ.out.2.2.1]; exact HMR.out) bq br eq er
  have HRS := Lib.hid HRES; clear HRES
  have hnr : nr = 0 ↔ x.natAbs % y.natAbs = 0 := by rw [HMR.out.n, magL_nil]
  have HNR := Lib.hid hnr; clear hnr
  obtain ⟨k1, k2, f1, f2, l1⟩ := y1
  obtain ⟨k3, k4, f3, f4, l3⟩ := y2
  obtain ⟨k5, k6, f5, f6, l5⟩ := y3
  obtain ⟨k7, k8, f7, f8, l7⟩ := y4
  cases b
  · go_wp2_with fail
    refine bodyPost_ret_by (v := .tuple #[.agg #[.bool false, .slice pq nq cq], .agg #[.bool false, .slice pr nr cr]]) (by simp [results, Tryz.f196, go_sem, k5, k6, k7, k8]) rfl ?_
    have hh := HS2.out
    obtain ⟨a1, a2, a3⟩ := HRS.out false false (by simpa using HQ.out.2.1) (by rw [HQ.out.2.2.2]; simp at hh; simp; omega)
    exact ⟨_, _, _, _, _, _, _, _, rfl, a1, a2, a3⟩
  · go_wp2_with fail
    refine bodyPost_ret_by (v := .tuple #[.agg #[.bool false, .slice pq nq cq], .agg #[.bool (decide (0 < nr)), .slice pr nr cr]]) (by simp [results, Tryz.f196, go_sem, k5, k6, k7, k8]) rfl ?_
    have hh := HS2.out
    have hn := HNR.out
    obtain ⟨a1, a2, a3⟩ := HRS.out false (decide (0 < nr)) (by simpa using HQ.out.2.1) (by rw [HQ.out.2.2.2]; simp at hh; rw [decide_eq_true_eq]; omega)
    exact ⟨_, _, _, _, _, _, _, _, rfl, a1, a2, a3⟩
end Go.Proofs.YtnjaikomoljmjaaGreatDoor
