/-
  The law TopMixesAreBetween: the walk.
-/
import Derived.Test.YtnlhdddhdcljkaaGreatDoorRg
set_option linter.unusedVariables false
set_option linter.unusedSimpArgs false
namespace Go.Proofs.YtnlhdddhdcljkaaGreatDoor
open Go.RowKit Go.Shelf Lum
open Go.Lib (decDigits itoa)
attribute [local go_sem] bs_get bs_extract_end bs_extract_from bs_extract bs_append

set_option maxRecDepth 100000 in
set_option maxHeartbeats 2000000 in
theorem top_runIntegers (w : World) (env : Env w) :
    Calls Tryz.prog 4 #[] w fun e w' => e = .returned (.bool (true)) ∧ Below w.heap.size w w' := by
  have h1 := fun W (e : Env W) => own_quo 100 7 W (by decide +kernel) (by decide +kernel) (by decide) e
  have h2 := fun W (e : Env W) => own_rem 100 7 W (by decide +kernel) (by decide +kernel) (by decide) e
  rw [show itoa 100 = [49, 48, 48] by decide +kernel, show itoa 7 = [55] by decide +kernel] at h1 h2
  rw [show wrT (Int.fdiv 100 7) = (([49, 52] : Txt), 0) by decide +kernel] at h1
  rw [show wrT (Int.fmod 100 7) = (([50] : Txt), 0) by decide +kernel] at h2
  have h3 := fun W (e : Env W) => own_rof ([49, 48, 48] : Txt) ([55] : Txt) W e (by decide) (by decide)
  rw [show ofT ([49, 48, 48] : Txt) ([55] : Txt) = (([49, 48, 48, 47, 55] : Txt), 0) by decide +kernel] at h3
  have h4 := fun W (e : Env W) => own_floor ([49, 48, 48, 47, 55] : Txt) W (by decide) e
  rw [show floorT ([49, 48, 48, 47, 55] : Txt) = (([49, 52] : Txt), 0) by decide +kernel] at h4
  dsimp only at h1 h2 h3 h4
  have H1 := Lib.hid h1; clear h1
  have H2 := Lib.hid h2; clear h2
  have H3 := Lib.hid h3; clear h3
  have H4 := Lib.hid h4; clear h4
  have ENV := Lib.hid env; clear env
  have HB := Lib.hid (Below.refl w.heap.size w)
  go_enter Tryz.func4, Tryz.ntmps4
  go_wp2_with (first | (with_reducible refine ((H1.out _ (ENV.out.below HB.out)).mono ?_); rintro e w' ⟨rfl, hb⟩; replace HB := Lib.hid (bch' HB.out hb); clear hb) | (with_reducible refine ((H2.out _ (ENV.out.below HB.out)).mono ?_); rintro e w' ⟨rfl, hb⟩; replace HB := Lib.hid (bch' HB.out hb); clear hb) | (with_reducible refine ((H3.out _ (ENV.out.below HB.out)).mono ?_); rintro e w' ⟨rfl, hb⟩; replace HB := Lib.hid (bch' HB.out hb); clear hb) | (with_reducible refine ((H4.out _ (ENV.out.below HB.out)).mono ?_); rintro e w' ⟨rfl, hb⟩; replace HB := Lib.hid (bch' HB.out hb); clear hb))
  go_ret
  exact ⟨rfl, HB.out⟩

set_option maxRecDepth 100000 in
set_option maxHeartbeats 8000000 in
theorem top_mixes (a b c : Txt) (w : World) (ha : a.length ≤ 9223372036854775807) (hb : b.length ≤ 9223372036854775807) (hc : c.length ≤ 9223372036854775807) (env : Env w) :
    Calls Tryz.prog 3 #[.string ⟨(a).toArray⟩, .string ⟨(b).toArray⟩, .string ⟨(c).toArray⟩] w fun e w' => e = .returned (.bool (true)) ∧ Below w.heap.size w w' := by
  have hri := fun W (e : Env W) => top_runIntegers W e
  have HRI := Lib.hid hri; clear hri
  have ENV := Lib.hid env; clear env
  have HB := Lib.hid (Below.refl w.heap.size w)
  by_cases l0 : 30 < a.length
  · skip
    go_enter Tryz.func3, Tryz.ntmps3
    go_wp2_with fail
    refine ((HRI.out _ (ENV.out.below HB.out)).mono ?_); rintro e w1 ⟨rfl, hb⟩; replace HB := Lib.hid (bch' HB.out hb); clear hb
    go_wp2_with fail
    have c0 : (w1.alloc (.cells #[.string ⟨(a).toArray⟩, .string ⟨(b).toArray⟩, .string ⟨(c).toArray⟩] 22)).cell? ⟨w1.heap.size, 0, none⟩ = some (.string ⟨(a).toArray⟩) := by rw [World.cell?_alloc_new]; rfl
    have c1 : (w1.alloc (.cells #[.string ⟨(a).toArray⟩, .string ⟨(b).toArray⟩, .string ⟨(c).toArray⟩] 22)).cell? ⟨w1.heap.size, 1, none⟩ = some (.string ⟨(b).toArray⟩) := by rw [World.cell?_alloc_new]; rfl
    have c2 : (w1.alloc (.cells #[.string ⟨(a).toArray⟩, .string ⟨(b).toArray⟩, .string ⟨(c).toArray⟩] 22)).cell? ⟨w1.heap.size, 2, none⟩ = some (.string ⟨(c).toArray⟩) := by rw [World.cell?_alloc_new]; rfl
    replace HB := Lib.hid (bch' HB.out ((Below.refl w1.heap.size w1).alloc (Nat.le_refl _) (.cells #[.string ⟨(a).toArray⟩, .string ⟨(b).toArray⟩, .string ⟨(c).toArray⟩] 22)))
    generalize w1.alloc (.cells #[.string ⟨(a).toArray⟩, .string ⟨(b).toArray⟩, .string ⟨(c).toArray⟩] 22) = W0 at *
    refine wp_loop_rounds 4 ?_
    repeat (rw [rounds_succ]; go_wp2)
    go_ret
    exact ⟨rfl, HB.out⟩
  have q0 := fun W => r2_check a W (by omega)
  by_cases k0 : ratCheck a = 0
  case neg =>
    have hne : ((ratCheck a : Int) != 0) = true := by simpa using k0
    generalize ratCheck a = m at *
    clear k0
    have Q0 := Lib.hid q0; clear q0
    go_enter Tryz.func3, Tryz.ntmps3
    go_wp2_with fail
    refine ((HRI.out _ (ENV.out.below HB.out)).mono ?_); rintro e w1 ⟨rfl, hb⟩; replace HB := Lib.hid (bch' HB.out hb); clear hb
    go_wp2_with fail
    have c0 : (w1.alloc (.cells #[.string ⟨(a).toArray⟩, .string ⟨(b).toArray⟩, .string ⟨(c).toArray⟩] 22)).cell? ⟨w1.heap.size, 0, none⟩ = some (.string ⟨(a).toArray⟩) := by rw [World.cell?_alloc_new]; rfl
    have c1 : (w1.alloc (.cells #[.string ⟨(a).toArray⟩, .string ⟨(b).toArray⟩, .string ⟨(c).toArray⟩] 22)).cell? ⟨w1.heap.size, 1, none⟩ = some (.string ⟨(b).toArray⟩) := by rw [World.cell?_alloc_new]; rfl
    have c2 : (w1.alloc (.cells #[.string ⟨(a).toArray⟩, .string ⟨(b).toArray⟩, .string ⟨(c).toArray⟩] 22)).cell? ⟨w1.heap.size, 2, none⟩ = some (.string ⟨(c).toArray⟩) := by rw [World.cell?_alloc_new]; rfl
    replace HB := Lib.hid (bch' HB.out ((Below.refl w1.heap.size w1).alloc (Nat.le_refl _) (.cells #[.string ⟨(a).toArray⟩, .string ⟨(b).toArray⟩, .string ⟨(c).toArray⟩] 22)))
    generalize w1.alloc (.cells #[.string ⟨(a).toArray⟩, .string ⟨(b).toArray⟩, .string ⟨(c).toArray⟩] 22) = W0 at *
    refine wp_loop_rounds 4 ?_
    repeat (rw [rounds_succ]; go_wp2_with (first | (with_reducible refine ((Q0.out _).mono ?_); rintro e w' ⟨rfl, hb⟩; replace c0 := keepQ c0 hb; replace c1 := keepQ c1 hb; replace c2 := keepQ c2 hb; replace HB := Lib.hid (bch' HB.out hb); clear hb)))
    go_ret
    exact ⟨rfl, HB.out⟩
  rw [k0] at q0
  obtain ⟨x, rfl, _⟩ := ratCheck_zero a k0
  have fx := fits_of_len (show (showR x).length ≤ 30 by omega)
  clear k0
  by_cases l1 : 30 < b.length
  · skip
    have Q0 := Lib.hid q0; clear q0
    go_enter Tryz.func3, Tryz.ntmps3
    go_wp2_with fail
    refine ((HRI.out _ (ENV.out.below HB.out)).mono ?_); rintro e w1 ⟨rfl, hb⟩; replace HB := Lib.hid (bch' HB.out hb); clear hb
    go_wp2_with fail
    have c0 : (w1.alloc (.cells #[.string ⟨(showR x).toArray⟩, .string ⟨(b).toArray⟩, .string ⟨(c).toArray⟩] 22)).cell? ⟨w1.heap.size, 0, none⟩ = some (.string ⟨(showR x).toArray⟩) := by rw [World.cell?_alloc_new]; rfl
    have c1 : (w1.alloc (.cells #[.string ⟨(showR x).toArray⟩, .string ⟨(b).toArray⟩, .string ⟨(c).toArray⟩] 22)).cell? ⟨w1.heap.size, 1, none⟩ = some (.string ⟨(b).toArray⟩) := by rw [World.cell?_alloc_new]; rfl
    have c2 : (w1.alloc (.cells #[.string ⟨(showR x).toArray⟩, .string ⟨(b).toArray⟩, .string ⟨(c).toArray⟩] 22)).cell? ⟨w1.heap.size, 2, none⟩ = some (.string ⟨(c).toArray⟩) := by rw [World.cell?_alloc_new]; rfl
    replace HB := Lib.hid (bch' HB.out ((Below.refl w1.heap.size w1).alloc (Nat.le_refl _) (.cells #[.string ⟨(showR x).toArray⟩, .string ⟨(b).toArray⟩, .string ⟨(c).toArray⟩] 22)))
    generalize w1.alloc (.cells #[.string ⟨(showR x).toArray⟩, .string ⟨(b).toArray⟩, .string ⟨(c).toArray⟩] 22) = W0 at *
    refine wp_loop_rounds 4 ?_
    repeat (rw [rounds_succ]; go_wp2_with (first | (with_reducible refine ((Q0.out _).mono ?_); rintro e w' ⟨rfl, hb⟩; replace c0 := keepQ c0 hb; replace c1 := keepQ c1 hb; replace c2 := keepQ c2 hb; replace HB := Lib.hid (bch' HB.out hb); clear hb)))
    go_ret
    exact ⟨rfl, HB.out⟩
  have q1 := fun W => r2_check b W (by omega)
  by_cases k1 : ratCheck b = 0
  case neg =>
    have hne : ((ratCheck b : Int) != 0) = true := by simpa using k1
    generalize ratCheck b = m at *
    clear k1
    have Q0 := Lib.hid q0; clear q0
    have Q1 := Lib.hid q1; clear q1
    go_enter Tryz.func3, Tryz.ntmps3
    go_wp2_with fail
    refine ((HRI.out _ (ENV.out.below HB.out)).mono ?_); rintro e w1 ⟨rfl, hb⟩; replace HB := Lib.hid (bch' HB.out hb); clear hb
    go_wp2_with fail
    have c0 : (w1.alloc (.cells #[.string ⟨(showR x).toArray⟩, .string ⟨(b).toArray⟩, .string ⟨(c).toArray⟩] 22)).cell? ⟨w1.heap.size, 0, none⟩ = some (.string ⟨(showR x).toArray⟩) := by rw [World.cell?_alloc_new]; rfl
    have c1 : (w1.alloc (.cells #[.string ⟨(showR x).toArray⟩, .string ⟨(b).toArray⟩, .string ⟨(c).toArray⟩] 22)).cell? ⟨w1.heap.size, 1, none⟩ = some (.string ⟨(b).toArray⟩) := by rw [World.cell?_alloc_new]; rfl
    have c2 : (w1.alloc (.cells #[.string ⟨(showR x).toArray⟩, .string ⟨(b).toArray⟩, .string ⟨(c).toArray⟩] 22)).cell? ⟨w1.heap.size, 2, none⟩ = some (.string ⟨(c).toArray⟩) := by rw [World.cell?_alloc_new]; rfl
    replace HB := Lib.hid (bch' HB.out ((Below.refl w1.heap.size w1).alloc (Nat.le_refl _) (.cells #[.string ⟨(showR x).toArray⟩, .string ⟨(b).toArray⟩, .string ⟨(c).toArray⟩] 22)))
    generalize w1.alloc (.cells #[.string ⟨(showR x).toArray⟩, .string ⟨(b).toArray⟩, .string ⟨(c).toArray⟩] 22) = W0 at *
    refine wp_loop_rounds 4 ?_
    repeat (rw [rounds_succ]; go_wp2_with (first | (with_reducible refine ((Q0.out _).mono ?_); rintro e w' ⟨rfl, hb⟩; replace c0 := keepQ c0 hb; replace c1 := keepQ c1 hb; replace c2 := keepQ c2 hb; replace HB := Lib.hid (bch' HB.out hb); clear hb) | (with_reducible refine ((Q1.out _).mono ?_); rintro e w' ⟨rfl, hb⟩; replace c0 := keepQ c0 hb; replace c1 := keepQ c1 hb; replace c2 := keepQ c2 hb; replace HB := Lib.hid (bch' HB.out hb); clear hb)))
    go_ret
    exact ⟨rfl, HB.out⟩
  rw [k1] at q1
  obtain ⟨y, rfl, _⟩ := ratCheck_zero b k1
  have fy := fits_of_len (show (showR y).length ≤ 30 by omega)
  clear k1
  by_cases l2 : 30 < c.length
  · skip
    have Q0 := Lib.hid q0; clear q0
    have Q1 := Lib.hid q1; clear q1
    go_enter Tryz.func3, Tryz.ntmps3
    go_wp2_with fail
    refine ((HRI.out _ (ENV.out.below HB.out)).mono ?_); rintro e w1 ⟨rfl, hb⟩; replace HB := Lib.hid (bch' HB.out hb); clear hb
    go_wp2_with fail
    have c0 : (w1.alloc (.cells #[.string ⟨(showR x).toArray⟩, .string ⟨(showR y).toArray⟩, .string ⟨(c).toArray⟩] 22)).cell? ⟨w1.heap.size, 0, none⟩ = some (.string ⟨(showR x).toArray⟩) := by rw [World.cell?_alloc_new]; rfl
    have c1 : (w1.alloc (.cells #[.string ⟨(showR x).toArray⟩, .string ⟨(showR y).toArray⟩, .string ⟨(c).toArray⟩] 22)).cell? ⟨w1.heap.size, 1, none⟩ = some (.string ⟨(showR y).toArray⟩) := by rw [World.cell?_alloc_new]; rfl
    have c2 : (w1.alloc (.cells #[.string ⟨(showR x).toArray⟩, .string ⟨(showR y).toArray⟩, .string ⟨(c).toArray⟩] 22)).cell? ⟨w1.heap.size, 2, none⟩ = some (.string ⟨(c).toArray⟩) := by rw [World.cell?_alloc_new]; rfl
    replace HB := Lib.hid (bch' HB.out ((Below.refl w1.heap.size w1).alloc (Nat.le_refl _) (.cells #[.string ⟨(showR x).toArray⟩, .string ⟨(showR y).toArray⟩, .string ⟨(c).toArray⟩] 22)))
    generalize w1.alloc (.cells #[.string ⟨(showR x).toArray⟩, .string ⟨(showR y).toArray⟩, .string ⟨(c).toArray⟩] 22) = W0 at *
    refine wp_loop_rounds 4 ?_
    repeat (rw [rounds_succ]; go_wp2_with (first | (with_reducible refine ((Q0.out _).mono ?_); rintro e w' ⟨rfl, hb⟩; replace c0 := keepQ c0 hb; replace c1 := keepQ c1 hb; replace c2 := keepQ c2 hb; replace HB := Lib.hid (bch' HB.out hb); clear hb) | (with_reducible refine ((Q1.out _).mono ?_); rintro e w' ⟨rfl, hb⟩; replace c0 := keepQ c0 hb; replace c1 := keepQ c1 hb; replace c2 := keepQ c2 hb; replace HB := Lib.hid (bch' HB.out hb); clear hb)))
    go_ret
    exact ⟨rfl, HB.out⟩
  have q2 := fun W => r2_check c W (by omega)
  by_cases k2 : ratCheck c = 0
  case neg =>
    have hne : ((ratCheck c : Int) != 0) = true := by simpa using k2
    generalize ratCheck c = m at *
    clear k2
    have Q0 := Lib.hid q0; clear q0
    have Q1 := Lib.hid q1; clear q1
    have Q2 := Lib.hid q2; clear q2
    go_enter Tryz.func3, Tryz.ntmps3
    go_wp2_with fail
    refine ((HRI.out _ (ENV.out.below HB.out)).mono ?_); rintro e w1 ⟨rfl, hb⟩; replace HB := Lib.hid (bch' HB.out hb); clear hb
    go_wp2_with fail
    have c0 : (w1.alloc (.cells #[.string ⟨(showR x).toArray⟩, .string ⟨(showR y).toArray⟩, .string ⟨(c).toArray⟩] 22)).cell? ⟨w1.heap.size, 0, none⟩ = some (.string ⟨(showR x).toArray⟩) := by rw [World.cell?_alloc_new]; rfl
    have c1 : (w1.alloc (.cells #[.string ⟨(showR x).toArray⟩, .string ⟨(showR y).toArray⟩, .string ⟨(c).toArray⟩] 22)).cell? ⟨w1.heap.size, 1, none⟩ = some (.string ⟨(showR y).toArray⟩) := by rw [World.cell?_alloc_new]; rfl
    have c2 : (w1.alloc (.cells #[.string ⟨(showR x).toArray⟩, .string ⟨(showR y).toArray⟩, .string ⟨(c).toArray⟩] 22)).cell? ⟨w1.heap.size, 2, none⟩ = some (.string ⟨(c).toArray⟩) := by rw [World.cell?_alloc_new]; rfl
    replace HB := Lib.hid (bch' HB.out ((Below.refl w1.heap.size w1).alloc (Nat.le_refl _) (.cells #[.string ⟨(showR x).toArray⟩, .string ⟨(showR y).toArray⟩, .string ⟨(c).toArray⟩] 22)))
    generalize w1.alloc (.cells #[.string ⟨(showR x).toArray⟩, .string ⟨(showR y).toArray⟩, .string ⟨(c).toArray⟩] 22) = W0 at *
    refine wp_loop_rounds 4 ?_
    repeat (rw [rounds_succ]; go_wp2_with (first | (with_reducible refine ((Q0.out _).mono ?_); rintro e w' ⟨rfl, hb⟩; replace c0 := keepQ c0 hb; replace c1 := keepQ c1 hb; replace c2 := keepQ c2 hb; replace HB := Lib.hid (bch' HB.out hb); clear hb) | (with_reducible refine ((Q1.out _).mono ?_); rintro e w' ⟨rfl, hb⟩; replace c0 := keepQ c0 hb; replace c1 := keepQ c1 hb; replace c2 := keepQ c2 hb; replace HB := Lib.hid (bch' HB.out hb); clear hb) | (with_reducible refine ((Q2.out _).mono ?_); rintro e w' ⟨rfl, hb⟩; replace c0 := keepQ c0 hb; replace c1 := keepQ c1 hb; replace c2 := keepQ c2 hb; replace HB := Lib.hid (bch' HB.out hb); clear hb)))
    go_ret
    exact ⟨rfl, HB.out⟩
  rw [k2] at q2
  obtain ⟨z, rfl, _⟩ := ratCheck_zero c k2
  have fz := fits_of_len (show (showR z).length ≤ 30 by omega)
  clear k2
  have o1 := fun W => r2_order z 0 W (fz.mono (by omega)) (fits_0.mono (by omega))
  have o2 := fun W => r2_order z 1 W (fz.mono (by omega)) (fits_1.mono (by omega))
  rw [showR_zero] at o1
  rw [show_1] at o2
  by_cases d1 : z < 0
  · have e1 : sgn z 0 < 0 := (sgn_lt _ _).2 d1
    generalize sgn z 0 = s1 at *
    generalize sgn z 1 = s2 at *
    clear d1 fx fy fz
    have Q0 := Lib.hid q0; clear q0
    have Q1 := Lib.hid q1; clear q1
    have Q2 := Lib.hid q2; clear q2
    have O1 := Lib.hid o1; clear o1
    have O2 := Lib.hid o2; clear o2
    go_enter Tryz.func3, Tryz.ntmps3
    go_wp2_with fail
    refine ((HRI.out _ (ENV.out.below HB.out)).mono ?_); rintro e w1 ⟨rfl, hb⟩; replace HB := Lib.hid (bch' HB.out hb); clear hb
    go_wp2_with fail
    have c0 : (w1.alloc (.cells #[.string ⟨(showR x).toArray⟩, .string ⟨(showR y).toArray⟩, .string ⟨(showR z).toArray⟩] 22)).cell? ⟨w1.heap.size, 0, none⟩ = some (.string ⟨(showR x).toArray⟩) := by rw [World.cell?_alloc_new]; rfl
    have c1 : (w1.alloc (.cells #[.string ⟨(showR x).toArray⟩, .string ⟨(showR y).toArray⟩, .string ⟨(showR z).toArray⟩] 22)).cell? ⟨w1.heap.size, 1, none⟩ = some (.string ⟨(showR y).toArray⟩) := by rw [World.cell?_alloc_new]; rfl
    have c2 : (w1.alloc (.cells #[.string ⟨(showR x).toArray⟩, .string ⟨(showR y).toArray⟩, .string ⟨(showR z).toArray⟩] 22)).cell? ⟨w1.heap.size, 2, none⟩ = some (.string ⟨(showR z).toArray⟩) := by rw [World.cell?_alloc_new]; rfl
    replace HB := Lib.hid (bch' HB.out ((Below.refl w1.heap.size w1).alloc (Nat.le_refl _) (.cells #[.string ⟨(showR x).toArray⟩, .string ⟨(showR y).toArray⟩, .string ⟨(showR z).toArray⟩] 22)))
    generalize w1.alloc (.cells #[.string ⟨(showR x).toArray⟩, .string ⟨(showR y).toArray⟩, .string ⟨(showR z).toArray⟩] 22) = W0 at *
    refine wp_loop_rounds 4 ?_
    repeat (rw [rounds_succ]; go_wp2_with (first | (with_reducible refine ((Q0.out _).mono ?_); rintro e w' ⟨rfl, hb⟩; replace c0 := keepQ c0 hb; replace c1 := keepQ c1 hb; replace c2 := keepQ c2 hb; replace HB := Lib.hid (bch' HB.out hb); clear hb) | (with_reducible refine ((Q1.out _).mono ?_); rintro e w' ⟨rfl, hb⟩; replace c0 := keepQ c0 hb; replace c1 := keepQ c1 hb; replace c2 := keepQ c2 hb; replace HB := Lib.hid (bch' HB.out hb); clear hb) | (with_reducible refine ((Q2.out _).mono ?_); rintro e w' ⟨rfl, hb⟩; replace c0 := keepQ c0 hb; replace c1 := keepQ c1 hb; replace c2 := keepQ c2 hb; replace HB := Lib.hid (bch' HB.out hb); clear hb) | (with_reducible refine ((O1.out _).mono ?_); rintro e w' ⟨rfl, hb⟩; replace c0 := keepQ c0 hb; replace c1 := keepQ c1 hb; replace c2 := keepQ c2 hb; replace HB := Lib.hid (bch' HB.out hb); clear hb)))
    go_ret
    exact ⟨rfl, HB.out⟩
  have e1 : ¬ sgn z 0 < 0 := mt (sgn_lt _ _).1 d1
  by_cases d2 : 1 < z
  · have e2 : 0 < sgn z 1 := (sgn_gt _ _).2 d2
    generalize sgn z 0 = s1 at *
    generalize sgn z 1 = s2 at *
    clear d1 d2 fx fy fz
    have Q0 := Lib.hid q0; clear q0
    have Q1 := Lib.hid q1; clear q1
    have Q2 := Lib.hid q2; clear q2
    have O1 := Lib.hid o1; clear o1
    have O2 := Lib.hid o2; clear o2
    go_enter Tryz.func3, Tryz.ntmps3
    go_wp2_with fail
    refine ((HRI.out _ (ENV.out.below HB.out)).mono ?_); rintro e w1 ⟨rfl, hb⟩; replace HB := Lib.hid (bch' HB.out hb); clear hb
    go_wp2_with fail
    have c0 : (w1.alloc (.cells #[.string ⟨(showR x).toArray⟩, .string ⟨(showR y).toArray⟩, .string ⟨(showR z).toArray⟩] 22)).cell? ⟨w1.heap.size, 0, none⟩ = some (.string ⟨(showR x).toArray⟩) := by rw [World.cell?_alloc_new]; rfl
    have c1 : (w1.alloc (.cells #[.string ⟨(showR x).toArray⟩, .string ⟨(showR y).toArray⟩, .string ⟨(showR z).toArray⟩] 22)).cell? ⟨w1.heap.size, 1, none⟩ = some (.string ⟨(showR y).toArray⟩) := by rw [World.cell?_alloc_new]; rfl
    have c2 : (w1.alloc (.cells #[.string ⟨(showR x).toArray⟩, .string ⟨(showR y).toArray⟩, .string ⟨(showR z).toArray⟩] 22)).cell? ⟨w1.heap.size, 2, none⟩ = some (.string ⟨(showR z).toArray⟩) := by rw [World.cell?_alloc_new]; rfl
    replace HB := Lib.hid (bch' HB.out ((Below.refl w1.heap.size w1).alloc (Nat.le_refl _) (.cells #[.string ⟨(showR x).toArray⟩, .string ⟨(showR y).toArray⟩, .string ⟨(showR z).toArray⟩] 22)))
    generalize w1.alloc (.cells #[.string ⟨(showR x).toArray⟩, .string ⟨(showR y).toArray⟩, .string ⟨(showR z).toArray⟩] 22) = W0 at *
    refine wp_loop_rounds 4 ?_
    repeat (rw [rounds_succ]; go_wp2_with (first | (with_reducible refine ((Q0.out _).mono ?_); rintro e w' ⟨rfl, hb⟩; replace c0 := keepQ c0 hb; replace c1 := keepQ c1 hb; replace c2 := keepQ c2 hb; replace HB := Lib.hid (bch' HB.out hb); clear hb) | (with_reducible refine ((Q1.out _).mono ?_); rintro e w' ⟨rfl, hb⟩; replace c0 := keepQ c0 hb; replace c1 := keepQ c1 hb; replace c2 := keepQ c2 hb; replace HB := Lib.hid (bch' HB.out hb); clear hb) | (with_reducible refine ((Q2.out _).mono ?_); rintro e w' ⟨rfl, hb⟩; replace c0 := keepQ c0 hb; replace c1 := keepQ c1 hb; replace c2 := keepQ c2 hb; replace HB := Lib.hid (bch' HB.out hb); clear hb) | (with_reducible refine ((O1.out _).mono ?_); rintro e w' ⟨rfl, hb⟩; replace c0 := keepQ c0 hb; replace c1 := keepQ c1 hb; replace c2 := keepQ c2 hb; replace HB := Lib.hid (bch' HB.out hb); clear hb) | (with_reducible refine ((O2.out _).mono ?_); rintro e w' ⟨rfl, hb⟩; replace c0 := keepQ c0 hb; replace c1 := keepQ c1 hb; replace c2 := keepQ c2 hb; replace HB := Lib.hid (bch' HB.out hb); clear hb)))
    go_ret
    exact ⟨rfl, HB.out⟩
  have e2 : ¬ 0 < sgn z 1 := mt (sgn_gt _ _).1 d2
  have z0 : 0 ≤ z := Rat.not_lt.1 d1
  have z1 : z ≤ 1 := Rat.not_lt.1 d2
  have fm := fits_mix2 fx fy fz
  have fn := fits_mix2 fm fy fz
  obtain ⟨b0, b1⟩ := mix_between x y z z0 z1
  have m0 := fun W (e : Env W) => own_mix (showR (x)) (showR (y)) (showR (z)) W (len_ok fx (by omega)) (len_ok fy (by omega)) (len_ok fz (by omega)) e
  rw [mix_gen fx fy fz (by omega)] at m0
  dsimp only at m0
  have m1 := fun W (e : Env W) => own_mix (showR (x)) (showR (y)) (showR (0)) W (len_ok fx (by omega)) (len_ok fy (by omega)) (len_ok fits_0 (by omega)) e
  rw [mix_gen fx fy fits_0 (by omega)] at m1
  dsimp only at m1
  have m2 := fun W (e : Env W) => own_mix (showR (x)) (showR (y)) (showR (1)) W (len_ok fx (by omega)) (len_ok fy (by omega)) (len_ok fits_1 (by omega)) e
  rw [mix_gen fx fy fits_1 (by omega)] at m2
  dsimp only at m2
  have m3 := fun W (e : Env W) => own_mix (showR (x + (y - x) * z)) (showR (y)) (showR (z)) W (len_ok fm (by omega)) (len_ok fy (by omega)) (len_ok fz (by omega)) e
  rw [mix_gen fm fy fz (by omega)] at m3
  dsimp only at m3
  rw [show x + (y - x) * 0 = x by grind, showR_zero] at m1
  rw [show x + (y - x) * 1 = y by grind, show_1] at m2
  have n0 := fun W (e : Env W) => own_rmin (showR (x)) (showR (y)) W (len_ok fx (by omega)) (len_ok fy (by omega)) e
  rw [min_gen fx fy (by omega)] at n0
  dsimp only at n0
  have n1 := fun W (e : Env W) => own_rmax (showR (x)) (showR (y)) W (len_ok fx (by omega)) (len_ok fy (by omega)) e
  rw [max_gen fx fy (by omega)] at n1
  dsimp only at n1
  have s0 := fun W (e : Env W) => own_rsub (showR (y)) (showR (x + (y - x) * z)) W e (len_ok fy (by omega)) (len_ok fm (by omega))
  rw [sub_gen fy fm (by omega)] at s0
  dsimp only at s0
  have s1 := fun W (e : Env W) => own_rsub (showR (y)) (showR (x + (y - x) * z + (y - (x + (y - x) * z)) * z)) W e (len_ok fy (by omega)) (len_ok fn (by omega))
  rw [sub_gen fy fn (by omega)] at s1
  dsimp only at s1
  have s2 := fun W (e : Env W) => own_rsub (showR (1)) (showR (z)) W e (len_ok fits_1 (by omega)) (len_ok fz (by omega))
  rw [sub_gen fits_1 fz (by omega)] at s2
  dsimp only at s2
  rw [show_1] at s2
  have s3 := fun W (e : Env W) => own_rmul (showR (y - (x + (y - x) * z))) (showR (1 - z)) W e (len_ok (fits_sub2 fy fm) (by omega)) (len_ok (fits_sub2 fits_1 fz) (by omega))
  rw [mul_gen (fits_sub2 fy fm) (fits_sub2 fits_1 fz) (by omega)] at s3
  dsimp only at s3
  rw [show (y - (x + (y - x) * z)) * (1 - z) = y - (x + (y - x) * z + (y - (x + (y - x) * z)) * z) by grind] at s3
  have p0 := fun W (e : Env W) => own_rcompare (showR (least x y)) (showR (x + (y - x) * z)) W e (len_ok (fits_least2 fx fy) (by omega)) (len_ok fm (by omega))
  rw [cmp_gen (fits_least2 fx fy) fm (by omega)] at p0
  dsimp only at p0
  have p1 := fun W (e : Env W) => own_rcompare (showR (x + (y - x) * z)) (showR (most x y)) W e (len_ok fm (by omega)) (len_ok (fits_most2 fx fy) (by omega))
  rw [cmp_gen fm (fits_most2 fx fy) (by omega)] at p1
  dsimp only at p1
  have g0 : sgn (least x y) (x + (y - x) * z) ≤ 0 := by have := mt (sgn_gt (least x y) (x + (y - x) * z)).1 (Rat.not_lt.2 b0); omega
  have g1 : sgn (x + (y - x) * z) (most x y) ≤ 0 := by have := mt (sgn_gt (x + (y - x) * z) (most x y)).1 (Rat.not_lt.2 b1); omega
  clear b0 b1 z0 z1 d1 d2 fm fn fx fy fz
  generalize sgn (least x y) (x + (y - x) * z) = u0 at *
  generalize sgn (x + (y - x) * z) (most x y) = u1 at *
  generalize sgn z 0 = u2 at *
  generalize sgn z 1 = u3 at *
  generalize y - (x + (y - x) * z + (y - (x + (y - x) * z)) * z) = r1 at *
  generalize x + (y - x) * z + (y - (x + (y - x) * z)) * z = r2 at *
  generalize y - (x + (y - x) * z) = r3 at *
  generalize x + (y - x) * z = r4 at *
  generalize least x y = r5 at *
  generalize most x y = r6 at *
  generalize 1 - z = r7 at *
  have Q0 := Lib.hid q0; clear q0
  have Q1 := Lib.hid q1; clear q1
  have Q2 := Lib.hid q2; clear q2
  have O1 := Lib.hid o1; clear o1
  have O2 := Lib.hid o2; clear o2
  have M0 := Lib.hid m0; clear m0
  have M1 := Lib.hid m1; clear m1
  have M2 := Lib.hid m2; clear m2
  have M3 := Lib.hid m3; clear m3
  have N0 := Lib.hid n0; clear n0
  have N1 := Lib.hid n1; clear n1
  have S0 := Lib.hid s0; clear s0
  have S1 := Lib.hid s1; clear s1
  have S2 := Lib.hid s2; clear s2
  have S3 := Lib.hid s3; clear s3
  have P0 := Lib.hid p0; clear p0
  have P1 := Lib.hid p1; clear p1
  go_enter Tryz.func3, Tryz.ntmps3
  go_wp2_with fail
  refine ((HRI.out _ (ENV.out.below HB.out)).mono ?_); rintro e w1 ⟨rfl, hb⟩; replace HB := Lib.hid (bch' HB.out hb); clear hb
  go_wp2_with fail
  have c0 : (w1.alloc (.cells #[.string ⟨(showR x).toArray⟩, .string ⟨(showR y).toArray⟩, .string ⟨(showR z).toArray⟩] 22)).cell? ⟨w1.heap.size, 0, none⟩ = some (.string ⟨(showR x).toArray⟩) := by rw [World.cell?_alloc_new]; rfl
  have c1 : (w1.alloc (.cells #[.string ⟨(showR x).toArray⟩, .string ⟨(showR y).toArray⟩, .string ⟨(showR z).toArray⟩] 22)).cell? ⟨w1.heap.size, 1, none⟩ = some (.string ⟨(showR y).toArray⟩) := by rw [World.cell?_alloc_new]; rfl
  have c2 : (w1.alloc (.cells #[.string ⟨(showR x).toArray⟩, .string ⟨(showR y).toArray⟩, .string ⟨(showR z).toArray⟩] 22)).cell? ⟨w1.heap.size, 2, none⟩ = some (.string ⟨(showR z).toArray⟩) := by rw [World.cell?_alloc_new]; rfl
  replace HB := Lib.hid (bch' HB.out ((Below.refl w1.heap.size w1).alloc (Nat.le_refl _) (.cells #[.string ⟨(showR x).toArray⟩, .string ⟨(showR y).toArray⟩, .string ⟨(showR z).toArray⟩] 22)))
  generalize w1.alloc (.cells #[.string ⟨(showR x).toArray⟩, .string ⟨(showR y).toArray⟩, .string ⟨(showR z).toArray⟩] 22) = W0 at *
  refine wp_loop_rounds 4 ?_
  repeat (rw [rounds_succ]; go_wp2_with (first | (with_reducible refine ((Q0.out _).mono ?_); rintro e w' ⟨rfl, hb⟩; replace c0 := keepQ c0 hb; replace c1 := keepQ c1 hb; replace c2 := keepQ c2 hb; replace HB := Lib.hid (bch' HB.out hb); clear hb) | (with_reducible refine ((Q1.out _).mono ?_); rintro e w' ⟨rfl, hb⟩; replace c0 := keepQ c0 hb; replace c1 := keepQ c1 hb; replace c2 := keepQ c2 hb; replace HB := Lib.hid (bch' HB.out hb); clear hb) | (with_reducible refine ((Q2.out _).mono ?_); rintro e w' ⟨rfl, hb⟩; replace c0 := keepQ c0 hb; replace c1 := keepQ c1 hb; replace c2 := keepQ c2 hb; replace HB := Lib.hid (bch' HB.out hb); clear hb) | (with_reducible refine ((O1.out _).mono ?_); rintro e w' ⟨rfl, hb⟩; replace c0 := keepQ c0 hb; replace c1 := keepQ c1 hb; replace c2 := keepQ c2 hb; replace HB := Lib.hid (bch' HB.out hb); clear hb) | (with_reducible refine ((O2.out _).mono ?_); rintro e w' ⟨rfl, hb⟩; replace c0 := keepQ c0 hb; replace c1 := keepQ c1 hb; replace c2 := keepQ c2 hb; replace HB := Lib.hid (bch' HB.out hb); clear hb) | (with_reducible refine ((M0.out _ (ENV.out.below HB.out)).mono ?_); rintro e w' ⟨rfl, hb⟩; replace c0 := keepQ c0 hb; replace c1 := keepQ c1 hb; replace c2 := keepQ c2 hb; replace HB := Lib.hid (bch' HB.out hb); clear hb) | (with_reducible refine ((M1.out _ (ENV.out.below HB.out)).mono ?_); rintro e w' ⟨rfl, hb⟩; replace c0 := keepQ c0 hb; replace c1 := keepQ c1 hb; replace c2 := keepQ c2 hb; replace HB := Lib.hid (bch' HB.out hb); clear hb) | (with_reducible refine ((M2.out _ (ENV.out.below HB.out)).mono ?_); rintro e w' ⟨rfl, hb⟩; replace c0 := keepQ c0 hb; replace c1 := keepQ c1 hb; replace c2 := keepQ c2 hb; replace HB := Lib.hid (bch' HB.out hb); clear hb) | (with_reducible refine ((M3.out _ (ENV.out.below HB.out)).mono ?_); rintro e w' ⟨rfl, hb⟩; replace c0 := keepQ c0 hb; replace c1 := keepQ c1 hb; replace c2 := keepQ c2 hb; replace HB := Lib.hid (bch' HB.out hb); clear hb) | (with_reducible refine ((N0.out _ (ENV.out.below HB.out)).mono ?_); rintro e w' ⟨rfl, hb⟩; replace c0 := keepQ c0 hb; replace c1 := keepQ c1 hb; replace c2 := keepQ c2 hb; replace HB := Lib.hid (bch' HB.out hb); clear hb) | (with_reducible refine ((N1.out _ (ENV.out.below HB.out)).mono ?_); rintro e w' ⟨rfl, hb⟩; replace c0 := keepQ c0 hb; replace c1 := keepQ c1 hb; replace c2 := keepQ c2 hb; replace HB := Lib.hid (bch' HB.out hb); clear hb) | (with_reducible refine ((S0.out _ (ENV.out.below HB.out)).mono ?_); rintro e w' ⟨rfl, hb⟩; replace c0 := keepQ c0 hb; replace c1 := keepQ c1 hb; replace c2 := keepQ c2 hb; replace HB := Lib.hid (bch' HB.out hb); clear hb) | (with_reducible refine ((S1.out _ (ENV.out.below HB.out)).mono ?_); rintro e w' ⟨rfl, hb⟩; replace c0 := keepQ c0 hb; replace c1 := keepQ c1 hb; replace c2 := keepQ c2 hb; replace HB := Lib.hid (bch' HB.out hb); clear hb) | (with_reducible refine ((S2.out _ (ENV.out.below HB.out)).mono ?_); rintro e w' ⟨rfl, hb⟩; replace c0 := keepQ c0 hb; replace c1 := keepQ c1 hb; replace c2 := keepQ c2 hb; replace HB := Lib.hid (bch' HB.out hb); clear hb) | (with_reducible refine ((S3.out _ (ENV.out.below HB.out)).mono ?_); rintro e w' ⟨rfl, hb⟩; replace c0 := keepQ c0 hb; replace c1 := keepQ c1 hb; replace c2 := keepQ c2 hb; replace HB := Lib.hid (bch' HB.out hb); clear hb) | (with_reducible refine ((P0.out _ (ENV.out.below HB.out)).mono ?_); rintro e w' ⟨rfl, hb⟩; replace c0 := keepQ c0 hb; replace c1 := keepQ c1 hb; replace c2 := keepQ c2 hb; replace HB := Lib.hid (bch' HB.out hb); clear hb) | (with_reducible refine ((P1.out _ (ENV.out.below HB.out)).mono ?_); rintro e w' ⟨rfl, hb⟩; replace c0 := keepQ c0 hb; replace c1 := keepQ c1 hb; replace c2 := keepQ c2 hb; replace HB := Lib.hid (bch' HB.out hb); clear hb)))
  go_ret
  exact ⟨rfl, HB.out⟩
end Go.Proofs.YtnlhdddhdcljkaaGreatDoor
