/-
  The laws of layer 2: short numbers.
-/
import Derived.Test.YtnjaikomoljmjaaGreatDoorLr1
import Derived.Test.YtnjaikomoljmjaaGreatDoorKe
set_option linter.unusedVariables false
set_option linter.unusedSimpArgs false
namespace Lum
open Go Go.RowKit Go.Shelf
open Go.Lib (decDigits itoa)
/-- Short right numbers. -/
def sB (a : Txt) : Bool := decide (a.length ≤ 120) && decide (ratCheck a = 0)
theorem sB_val {a : Txt} (h : sB a = true) : ∃ x, a = showR x ∧ Fits 121 x := by
  unfold sB at h
  simp only [Bool.and_eq_true, decide_eq_true_eq] at h
  obtain ⟨x, rfl, fx⟩ := ratCheck_zero a h.2
  refine ⟨x, rfl, ?_, ?_⟩
  · have h1 := top_le (showR x)
    rw [top_showR] at h1
    have := dl_len x.num
    omega
  · have h1 := bot_le (showR x)
    rw [bot_z] at h1
    have := dl_len (x.den : Int)
    omega
theorem sub_small {x y : Rat} (hx : Fits 1000 x) (hy : Fits 1000 y) : rTwo (showR x) (showR y) qSub = (showR (x - y), 0) := by
  rw [rTwo_ok x y _ (fits_fit hx (by omega)) (fits_fit hy (by omega)), qSub_neg, qAdd_small hx (fits_neg hy), Rat.sub_eq_add_neg]
theorem long_no {z : Int} (h : dl z ≤ 4096) : ¬ long z = true := by rw [long_dl]; simp; omega
theorem mul_small {x y : Rat} (hx : Fits 1000 x) (hy : Fits 1000 y) : rTwo (showR x) (showR y) qMul = (showR (x * y), 0) := by
  rw [rTwo_ok x y _ (fits_fit hx (by omega)) (fits_fit hy (by omega))]
  unfold qMul
  have a := dl_mul x.num y.num
  have c := dl_mul x.den y.den
  have := hx.1; have := hx.2; have := hy.1; have := hy.2
  rw [if_neg]
  rw [Bool.or_eq_true]
  rintro (h | h)
  · exact long_no (by omega) h
  · exact long_no (by omega) h
theorem div_small {x y : Rat} (hx : Fits 1000 x) (hy : Fits 1000 y) (h0 : y ≠ 0) : rTwo (showR x) (showR y) qDiv = (showR (x / y), 0) := by
  rw [rTwo_ok x y _ (fits_fit hx (by omega)) (fits_fit hy (by omega))]
  unfold qDiv
  have a := dl_mul x.num y.den
  have c := dl_mul x.den y.num
  have := hx.1; have := hx.2; have := hy.1; have := hy.2
  rw [if_neg h0, if_neg]
  rw [Bool.or_eq_true]
  rintro (h | h)
  · exact long_no (by omega) h
  · exact long_no (by omega) h
theorem cmp_small {x y : Rat} (hx : Fits 1000 x) (hy : Fits 1000 y) : cTwo (showR x) (showR y) = (sgn x y, 0) := cTwo_small (hx.mono (by omega)) (hy.mono (by omega))
theorem fits_sub {k : Nat} {x y : Rat} (hx : Fits k x) (hy : Fits k y) : Fits (2 * k + 1) (x - y) := by rw [Rat.sub_eq_add_neg]; exact fits_add hx (fits_neg hy)
theorem fits_small (n : Int) (h : dl n ≤ 19) : Fits 121 (n : Rat) := fits_int n 121 (by omega) (by omega)
theorem fits_zero (k : Nat) (hk : 1 ≤ k) : Fits k (0 : Rat) := by
  have := fits_int 0 k hk (by rw [dl_zero]; exact hk)
  exact this
theorem check_small {x : Rat} (hx : Fits 1000 x) : ratCheck (showR x) = 0 := ratCheck_showR x (fits_fit hx (by omega))
end Lum
namespace Go.Proofs.YtnjaikomoljmjaaGreatDoor
open Go.RowKit Go.Shelf Lum
open Go.Lib (decDigits itoa)
attribute [local go_sem] bs_get bs_extract_end bs_extract_from bs_extract bs_append

set_option maxRecDepth 100000 in
set_option maxHeartbeats 4000000 in
theorem law02_short1 (a : Txt) (B : Nat) (w : World) (c0 : w.cell? ⟨B, 0, none⟩ = some (.string ⟨a.toArray⟩)) :
    Calls Tryz.prog 68 #[.slice (some ⟨B, 0, none⟩) 1 1] w fun e w' => e = .returned (.bool (sB a)) ∧ Below w.heap.size w w' := by
  have f0 := fun W => r2_few a W
  cases g0 : decide (a.length ≤ 120)
  · rw [show (sB a) = false by simp [sB, g0]]
    rw [g0] at f0
    have F0 := Lib.hid f0; clear f0
    have HB := Lib.hid (Below.refl w.heap.size w)
    go_enter Tryz.func68, Tryz.ntmps68
    go_wp2
    refine wp_loop_rounds 2 ?_
    repeat (rw [rounds_succ]; go_wp2_with (first | (with_reducible refine ((F0.out _).mono ?_); rintro e w' ⟨rfl, hb⟩; replace c0 := keepK c0 hb; replace HB := Lib.hid (bch' HB.out hb); clear hb)))
    go_ret
    exact ⟨rfl, HB.out⟩
  rw [g0] at f0
  have q0 := fun W => r2_check a W (by have := of_decide_eq_true g0; omega)
  by_cases k0 : ratCheck a = 0
  case neg =>
    rw [show (sB a) = false by simp [sB, k0]]
    have hne : ((ratCheck a : Int) != 0) = true := by simpa using k0
    generalize ratCheck a = m at *
    clear k0 g0
    have F0 := Lib.hid f0; clear f0
    have Q0 := Lib.hid q0; clear q0
    have HB := Lib.hid (Below.refl w.heap.size w)
    go_enter Tryz.func68, Tryz.ntmps68
    go_wp2
    refine wp_loop_rounds 2 ?_
    repeat (rw [rounds_succ]; go_wp2_with (first | (with_reducible refine ((F0.out _).mono ?_); rintro e w' ⟨rfl, hb⟩; replace c0 := keepK c0 hb; replace HB := Lib.hid (bch' HB.out hb); clear hb) | (with_reducible refine ((Q0.out _).mono ?_); rintro e w' ⟨rfl, hb⟩; replace c0 := keepK c0 hb; replace HB := Lib.hid (bch' HB.out hb); clear hb)))
    go_ret
    exact ⟨rfl, HB.out⟩
  rw [k0] at q0
  rw [show (sB a) = true by simp [sB, of_decide_eq_true g0, k0]]
  clear g0 k0
  have F0 := Lib.hid f0; clear f0
  have Q0 := Lib.hid q0; clear q0
  have HB := Lib.hid (Below.refl w.heap.size w)
  go_enter Tryz.func68, Tryz.ntmps68
  go_wp2
  refine wp_loop_rounds 2 ?_
  repeat (rw [rounds_succ]; go_wp2_with (first | (with_reducible refine ((F0.out _).mono ?_); rintro e w' ⟨rfl, hb⟩; replace c0 := keepK c0 hb; replace HB := Lib.hid (bch' HB.out hb); clear hb) | (with_reducible refine ((Q0.out _).mono ?_); rintro e w' ⟨rfl, hb⟩; replace c0 := keepK c0 hb; replace HB := Lib.hid (bch' HB.out hb); clear hb)))
  go_ret
  exact ⟨rfl, HB.out⟩

set_option maxRecDepth 100000 in
set_option maxHeartbeats 4000000 in
theorem law02_short2 (a b : Txt) (B : Nat) (w : World) (c0 : w.cell? ⟨B, 0, none⟩ = some (.string ⟨a.toArray⟩)) (c1 : w.cell? ⟨B, 1, none⟩ = some (.string ⟨b.toArray⟩)) :
    Calls Tryz.prog 68 #[.slice (some ⟨B, 0, none⟩) 2 2] w fun e w' => e = .returned (.bool (sB a && sB b)) ∧ Below w.heap.size w w' := by
  have f0 := fun W => r2_few a W
  have f1 := fun W => r2_few b W
  cases g0 : decide (a.length ≤ 120)
  · rw [show (sB a && sB b) = false by simp [sB, g0]]
    rw [g0] at f0
    have F0 := Lib.hid f0; clear f0
    have HB := Lib.hid (Below.refl w.heap.size w)
    go_enter Tryz.func68, Tryz.ntmps68
    go_wp2
    refine wp_loop_rounds 3 ?_
    repeat (rw [rounds_succ]; go_wp2_with (first | (with_reducible refine ((F0.out _).mono ?_); rintro e w' ⟨rfl, hb⟩; replace c0 := keepK c0 hb; replace c1 := keepK c1 hb; replace HB := Lib.hid (bch' HB.out hb); clear hb)))
    go_ret
    exact ⟨rfl, HB.out⟩
  rw [g0] at f0
  have q0 := fun W => r2_check a W (by have := of_decide_eq_true g0; omega)
  by_cases k0 : ratCheck a = 0
  case neg =>
    rw [show (sB a && sB b) = false by simp [sB, k0]]
    have hne : ((ratCheck a : Int) != 0) = true := by simpa using k0
    generalize ratCheck a = m at *
    clear k0 g0
    have F0 := Lib.hid f0; clear f0
    have Q0 := Lib.hid q0; clear q0
    have HB := Lib.hid (Below.refl w.heap.size w)
    go_enter Tryz.func68, Tryz.ntmps68
    go_wp2
    refine wp_loop_rounds 3 ?_
    repeat (rw [rounds_succ]; go_wp2_with (first | (with_reducible refine ((F0.out _).mono ?_); rintro e w' ⟨rfl, hb⟩; replace c0 := keepK c0 hb; replace c1 := keepK c1 hb; replace HB := Lib.hid (bch' HB.out hb); clear hb) | (with_reducible refine ((Q0.out _).mono ?_); rintro e w' ⟨rfl, hb⟩; replace c0 := keepK c0 hb; replace c1 := keepK c1 hb; replace HB := Lib.hid (bch' HB.out hb); clear hb)))
    go_ret
    exact ⟨rfl, HB.out⟩
  rw [k0] at q0
  cases g1 : decide (b.length ≤ 120)
  · rw [show (sB a && sB b) = false by simp [sB, g1, g0, k0]]
    rw [g1] at f1
    have F0 := Lib.hid f0; clear f0
    have Q0 := Lib.hid q0; clear q0
    have F1 := Lib.hid f1; clear f1
    have HB := Lib.hid (Below.refl w.heap.size w)
    go_enter Tryz.func68, Tryz.ntmps68
    go_wp2
    refine wp_loop_rounds 3 ?_
    repeat (rw [rounds_succ]; go_wp2_with (first | (with_reducible refine ((F0.out _).mono ?_); rintro e w' ⟨rfl, hb⟩; replace c0 := keepK c0 hb; replace c1 := keepK c1 hb; replace HB := Lib.hid (bch' HB.out hb); clear hb) | (with_reducible refine ((Q0.out _).mono ?_); rintro e w' ⟨rfl, hb⟩; replace c0 := keepK c0 hb; replace c1 := keepK c1 hb; replace HB := Lib.hid (bch' HB.out hb); clear hb) | (with_reducible refine ((F1.out _).mono ?_); rintro e w' ⟨rfl, hb⟩; replace c0 := keepK c0 hb; replace c1 := keepK c1 hb; replace HB := Lib.hid (bch' HB.out hb); clear hb)))
    go_ret
    exact ⟨rfl, HB.out⟩
  rw [g1] at f1
  have q1 := fun W => r2_check b W (by have := of_decide_eq_true g1; omega)
  by_cases k1 : ratCheck b = 0
  case neg =>
    rw [show (sB a && sB b) = false by simp [sB, k1, g0, k0]]
    have hne : ((ratCheck b : Int) != 0) = true := by simpa using k1
    generalize ratCheck b = m at *
    clear k1 g0 k0 g1
    have F0 := Lib.hid f0; clear f0
    have Q0 := Lib.hid q0; clear q0
    have F1 := Lib.hid f1; clear f1
    have Q1 := Lib.hid q1; clear q1
    have HB := Lib.hid (Below.refl w.heap.size w)
    go_enter Tryz.func68, Tryz.ntmps68
    go_wp2
    refine wp_loop_rounds 3 ?_
    repeat (rw [rounds_succ]; go_wp2_with (first | (with_reducible refine ((F0.out _).mono ?_); rintro e w' ⟨rfl, hb⟩; replace c0 := keepK c0 hb; replace c1 := keepK c1 hb; replace HB := Lib.hid (bch' HB.out hb); clear hb) | (with_reducible refine ((Q0.out _).mono ?_); rintro e w' ⟨rfl, hb⟩; replace c0 := keepK c0 hb; replace c1 := keepK c1 hb; replace HB := Lib.hid (bch' HB.out hb); clear hb) | (with_reducible refine ((F1.out _).mono ?_); rintro e w' ⟨rfl, hb⟩; replace c0 := keepK c0 hb; replace c1 := keepK c1 hb; replace HB := Lib.hid (bch' HB.out hb); clear hb) | (with_reducible refine ((Q1.out _).mono ?_); rintro e w' ⟨rfl, hb⟩; replace c0 := keepK c0 hb; replace c1 := keepK c1 hb; replace HB := Lib.hid (bch' HB.out hb); clear hb)))
    go_ret
    exact ⟨rfl, HB.out⟩
  rw [k1] at q1
  rw [show (sB a && sB b) = true by simp [sB, of_decide_eq_true g0, k0, of_decide_eq_true g1, k1]]
  clear g0 k0 g1 k1
  have F0 := Lib.hid f0; clear f0
  have Q0 := Lib.hid q0; clear q0
  have F1 := Lib.hid f1; clear f1
  have Q1 := Lib.hid q1; clear q1
  have HB := Lib.hid (Below.refl w.heap.size w)
  go_enter Tryz.func68, Tryz.ntmps68
  go_wp2
  refine wp_loop_rounds 3 ?_
  repeat (rw [rounds_succ]; go_wp2_with (first | (with_reducible refine ((F0.out _).mono ?_); rintro e w' ⟨rfl, hb⟩; replace c0 := keepK c0 hb; replace c1 := keepK c1 hb; replace HB := Lib.hid (bch' HB.out hb); clear hb) | (with_reducible refine ((Q0.out _).mono ?_); rintro e w' ⟨rfl, hb⟩; replace c0 := keepK c0 hb; replace c1 := keepK c1 hb; replace HB := Lib.hid (bch' HB.out hb); clear hb) | (with_reducible refine ((F1.out _).mono ?_); rintro e w' ⟨rfl, hb⟩; replace c0 := keepK c0 hb; replace c1 := keepK c1 hb; replace HB := Lib.hid (bch' HB.out hb); clear hb) | (with_reducible refine ((Q1.out _).mono ?_); rintro e w' ⟨rfl, hb⟩; replace c0 := keepK c0 hb; replace c1 := keepK c1 hb; replace HB := Lib.hid (bch' HB.out hb); clear hb)))
  go_ret
  exact ⟨rfl, HB.out⟩

set_option maxRecDepth 100000 in
set_option maxHeartbeats 4000000 in
theorem law02_short3 (a b c : Txt) (B : Nat) (w : World) (c0 : w.cell? ⟨B, 0, none⟩ = some (.string ⟨a.toArray⟩)) (c1 : w.cell? ⟨B, 1, none⟩ = some (.string ⟨b.toArray⟩)) (c2 : w.cell? ⟨B, 2, none⟩ = some (.string ⟨c.toArray⟩)) :
    Calls Tryz.prog 68 #[.slice (some ⟨B, 0, none⟩) 3 3] w fun e w' => e = .returned (.bool (sB a && sB b && sB c)) ∧ Below w.heap.size w w' := by
  have f0 := fun W => r2_few a W
  have f1 := fun W => r2_few b W
  have f2 := fun W => r2_few c W
  cases g0 : decide (a.length ≤ 120)
  · rw [show (sB a && sB b && sB c) = false by simp [sB, g0]]
    rw [g0] at f0
    have F0 := Lib.hid f0; clear f0
    have HB := Lib.hid (Below.refl w.heap.size w)
    go_enter Tryz.func68, Tryz.ntmps68
    go_wp2
    refine wp_loop_rounds 4 ?_
    repeat (rw [rounds_succ]; go_wp2_with (first | (with_reducible refine ((F0.out _).mono ?_); rintro e w' ⟨rfl, hb⟩; replace c0 := keepK c0 hb; replace c1 := keepK c1 hb; replace c2 := keepK c2 hb; replace HB := Lib.hid (bch' HB.out hb); clear hb)))
    go_ret
    exact ⟨rfl, HB.out⟩
  rw [g0] at f0
  have q0 := fun W => r2_check a W (by have := of_decide_eq_true g0; omega)
  by_cases k0 : ratCheck a = 0
  case neg =>
    rw [show (sB a && sB b && sB c) = false by simp [sB, k0]]
    have hne : ((ratCheck a : Int) != 0) = true := by simpa using k0
    generalize ratCheck a = m at *
    clear k0 g0
    have F0 := Lib.hid f0; clear f0
    have Q0 := Lib.hid q0; clear q0
    have HB := Lib.hid (Below.refl w.heap.size w)
    go_enter Tryz.func68, Tryz.ntmps68
    go_wp2
    refine wp_loop_rounds 4 ?_
    repeat (rw [rounds_succ]; go_wp2_with (first | (with_reducible refine ((F0.out _).mono ?_); rintro e w' ⟨rfl, hb⟩; replace c0 := keepK c0 hb; replace c1 := keepK c1 hb; replace c2 := keepK c2 hb; replace HB := Lib.hid (bch' HB.out hb); clear hb) | (with_reducible refine ((Q0.out _).mono ?_); rintro e w' ⟨rfl, hb⟩; replace c0 := keepK c0 hb; replace c1 := keepK c1 hb; replace c2 := keepK c2 hb; replace HB := Lib.hid (bch' HB.out hb); clear hb)))
    go_ret
    exact ⟨rfl, HB.out⟩
  rw [k0] at q0
  cases g1 : decide (b.length ≤ 120)
  · rw [show (sB a && sB b && sB c) = false by simp [sB, g1, g0, k0]]
    rw [g1] at f1
    have F0 := Lib.hid f0; clear f0
    have Q0 := Lib.hid q0; clear q0
    have F1 := Lib.hid f1; clear f1
    have HB := Lib.hid (Below.refl w.heap.size w)
    go_enter Tryz.func68, Tryz.ntmps68
    go_wp2
    refine wp_loop_rounds 4 ?_
    repeat (rw [rounds_succ]; go_wp2_with (first | (with_reducible refine ((F0.out _).mono ?_); rintro e w' ⟨rfl, hb⟩; replace c0 := keepK c0 hb; replace c1 := keepK c1 hb; replace c2 := keepK c2 hb; replace HB := Lib.hid (bch' HB.out hb); clear hb) | (with_reducible refine ((Q0.out _).mono ?_); rintro e w' ⟨rfl, hb⟩; replace c0 := keepK c0 hb; replace c1 := keepK c1 hb; replace c2 := keepK c2 hb; replace HB := Lib.hid (bch' HB.out hb); clear hb) | (with_reducible refine ((F1.out _).mono ?_); rintro e w' ⟨rfl, hb⟩; replace c0 := keepK c0 hb; replace c1 := keepK c1 hb; replace c2 := keepK c2 hb; replace HB := Lib.hid (bch' HB.out hb); clear hb)))
    go_ret
    exact ⟨rfl, HB.out⟩
  rw [g1] at f1
  have q1 := fun W => r2_check b W (by have := of_decide_eq_true g1; omega)
  by_cases k1 : ratCheck b = 0
  case neg =>
    rw [show (sB a && sB b && sB c) = false by simp [sB, k1, g0, k0]]
    have hne : ((ratCheck b : Int) != 0) = true := by simpa using k1
    generalize ratCheck b = m at *
    clear k1 g0 k0 g1
    have F0 := Lib.hid f0; clear f0
    have Q0 := Lib.hid q0; clear q0
    have F1 := Lib.hid f1; clear f1
    have Q1 := Lib.hid q1; clear q1
    have HB := Lib.hid (Below.refl w.heap.size w)
    go_enter Tryz.func68, Tryz.ntmps68
    go_wp2
    refine wp_loop_rounds 4 ?_
    repeat (rw [rounds_succ]; go_wp2_with (first | (with_reducible refine ((F0.out _).mono ?_); rintro e w' ⟨rfl, hb⟩; replace c0 := keepK c0 hb; replace c1 := keepK c1 hb; replace c2 := keepK c2 hb; replace HB := Lib.hid (bch' HB.out hb); clear hb) | (with_reducible refine ((Q0.out _).mono ?_); rintro e w' ⟨rfl, hb⟩; replace c0 := keepK c0 hb; replace c1 := keepK c1 hb; replace c2 := keepK c2 hb; replace HB := Lib.hid (bch' HB.out hb); clear hb) | (with_reducible refine ((F1.out _).mono ?_); rintro e w' ⟨rfl, hb⟩; replace c0 := keepK c0 hb; replace c1 := keepK c1 hb; replace c2 := keepK c2 hb; replace HB := Lib.hid (bch' HB.out hb); clear hb) | (with_reducible refine ((Q1.out _).mono ?_); rintro e w' ⟨rfl, hb⟩; replace c0 := keepK c0 hb; replace c1 := keepK c1 hb; replace c2 := keepK c2 hb; replace HB := Lib.hid (bch' HB.out hb); clear hb)))
    go_ret
    exact ⟨rfl, HB.out⟩
  rw [k1] at q1
  cases g2 : decide (c.length ≤ 120)
  · rw [show (sB a && sB b && sB c) = false by simp [sB, g2, g0, k0, g1, k1]]
    rw [g2] at f2
    have F0 := Lib.hid f0; clear f0
    have Q0 := Lib.hid q0; clear q0
    have F1 := Lib.hid f1; clear f1
    have Q1 := Lib.hid q1; clear q1
    have F2 := Lib.hid f2; clear f2
    have HB := Lib.hid (Below.refl w.heap.size w)
    go_enter Tryz.func68, Tryz.ntmps68
    go_wp2
    refine wp_loop_rounds 4 ?_
    repeat (rw [rounds_succ]; go_wp2_with (first | (with_reducible refine ((F0.out _).mono ?_); rintro e w' ⟨rfl, hb⟩; replace c0 := keepK c0 hb; replace c1 := keepK c1 hb; replace c2 := keepK c2 hb; replace HB := Lib.hid (bch' HB.out hb); clear hb) | (with_reducible refine ((Q0.out _).mono ?_); rintro e w' ⟨rfl, hb⟩; replace c0 := keepK c0 hb; replace c1 := keepK c1 hb; replace c2 := keepK c2 hb; replace HB := Lib.hid (bch' HB.out hb); clear hb) | (with_reducible refine ((F1.out _).mono ?_); rintro e w' ⟨rfl, hb⟩; replace c0 := keepK c0 hb; replace c1 := keepK c1 hb; replace c2 := keepK c2 hb; replace HB := Lib.hid (bch' HB.out hb); clear hb) | (with_reducible refine ((Q1.out _).mono ?_); rintro e w' ⟨rfl, hb⟩; replace c0 := keepK c0 hb; replace c1 := keepK c1 hb; replace c2 := keepK c2 hb; replace HB := Lib.hid (bch' HB.out hb); clear hb) | (with_reducible refine ((F2.out _).mono ?_); rintro e w' ⟨rfl, hb⟩; replace c0 := keepK c0 hb; replace c1 := keepK c1 hb; replace c2 := keepK c2 hb; replace HB := Lib.hid (bch' HB.out hb); clear hb)))
    go_ret
    exact ⟨rfl, HB.out⟩
  rw [g2] at f2
  have q2 := fun W => r2_check c W (by have := of_decide_eq_true g2; omega)
  by_cases k2 : ratCheck c = 0
  case neg =>
    rw [show (sB a && sB b && sB c) = false by simp [sB, k2, g0, k0, g1, k1]]
    have hne : ((ratCheck c : Int) != 0) = true := by simpa using k2
    generalize ratCheck c = m at *
    clear k2 g0 k0 g1 k1 g2
    have F0 := Lib.hid f0; clear f0
    have Q0 := Lib.hid q0; clear q0
    have F1 := Lib.hid f1; clear f1
    have Q1 := Lib.hid q1; clear q1
    have F2 := Lib.hid f2; clear f2
    have Q2 := Lib.hid q2; clear q2
    have HB := Lib.hid (Below.refl w.heap.size w)
    go_enter Tryz.func68, Tryz.ntmps68
    go_wp2
    refine wp_loop_rounds 4 ?_
    repeat (rw [rounds_succ]; go_wp2_with (first | (with_reducible refine ((F0.out _).mono ?_); rintro e w' ⟨rfl, hb⟩; replace c0 := keepK c0 hb; replace c1 := keepK c1 hb; replace c2 := keepK c2 hb; replace HB := Lib.hid (bch' HB.out hb); clear hb) | (with_reducible refine ((Q0.out _).mono ?_); rintro e w' ⟨rfl, hb⟩; replace c0 := keepK c0 hb; replace c1 := keepK c1 hb; replace c2 := keepK c2 hb; replace HB := Lib.hid (bch' HB.out hb); clear hb) | (with_reducible refine ((F1.out _).mono ?_); rintro e w' ⟨rfl, hb⟩; replace c0 := keepK c0 hb; replace c1 := keepK c1 hb; replace c2 := keepK c2 hb; replace HB := Lib.hid (bch' HB.out hb); clear hb) | (with_reducible refine ((Q1.out _).mono ?_); rintro e w' ⟨rfl, hb⟩; replace c0 := keepK c0 hb; replace c1 := keepK c1 hb; replace c2 := keepK c2 hb; replace HB := Lib.hid (bch' HB.out hb); clear hb) | (with_reducible refine ((F2.out _).mono ?_); rintro e w' ⟨rfl, hb⟩; replace c0 := keepK c0 hb; replace c1 := keepK c1 hb; replace c2 := keepK c2 hb; replace HB := Lib.hid (bch' HB.out hb); clear hb) | (with_reducible refine ((Q2.out _).mono ?_); rintro e w' ⟨rfl, hb⟩; replace c0 := keepK c0 hb; replace c1 := keepK c1 hb; replace c2 := keepK c2 hb; replace HB := Lib.hid (bch' HB.out hb); clear hb)))
    go_ret
    exact ⟨rfl, HB.out⟩
  rw [k2] at q2
  rw [show (sB a && sB b && sB c) = true by simp [sB, of_decide_eq_true g0, k0, of_decide_eq_true g1, k1, of_decide_eq_true g2, k2]]
  clear g0 k0 g1 k1 g2 k2
  have F0 := Lib.hid f0; clear f0
  have Q0 := Lib.hid q0; clear q0
  have F1 := Lib.hid f1; clear f1
  have Q1 := Lib.hid q1; clear q1
  have F2 := Lib.hid f2; clear f2
  have Q2 := Lib.hid q2; clear q2
  have HB := Lib.hid (Below.refl w.heap.size w)
  go_enter Tryz.func68, Tryz.ntmps68
  go_wp2
  refine wp_loop_rounds 4 ?_
  repeat (rw [rounds_succ]; go_wp2_with (first | (with_reducible refine ((F0.out _).mono ?_); rintro e w' ⟨rfl, hb⟩; replace c0 := keepK c0 hb; replace c1 := keepK c1 hb; replace c2 := keepK c2 hb; replace HB := Lib.hid (bch' HB.out hb); clear hb) | (with_reducible refine ((Q0.out _).mono ?_); rintro e w' ⟨rfl, hb⟩; replace c0 := keepK c0 hb; replace c1 := keepK c1 hb; replace c2 := keepK c2 hb; replace HB := Lib.hid (bch' HB.out hb); clear hb) | (with_reducible refine ((F1.out _).mono ?_); rintro e w' ⟨rfl, hb⟩; replace c0 := keepK c0 hb; replace c1 := keepK c1 hb; replace c2 := keepK c2 hb; replace HB := Lib.hid (bch' HB.out hb); clear hb) | (with_reducible refine ((Q1.out _).mono ?_); rintro e w' ⟨rfl, hb⟩; replace c0 := keepK c0 hb; replace c1 := keepK c1 hb; replace c2 := keepK c2 hb; replace HB := Lib.hid (bch' HB.out hb); clear hb) | (with_reducible refine ((F2.out _).mono ?_); rintro e w' ⟨rfl, hb⟩; replace c0 := keepK c0 hb; replace c1 := keepK c1 hb; replace c2 := keepK c2 hb; replace HB := Lib.hid (bch' HB.out hb); clear hb) | (with_reducible refine ((Q2.out _).mono ?_); rintro e w' ⟨rfl, hb⟩; replace c0 := keepK c0 hb; replace c1 := keepK c1 hb; replace c2 := keepK c2 hb; replace HB := Lib.hid (bch' HB.out hb); clear hb)))
  go_ret
  exact ⟨rfl, HB.out⟩
end Go.Proofs.YtnjaikomoljmjaaGreatDoor
