/-
  The law ClockComes: the walk.
-/
import Derived.Test.YtnjaikomoljmjaaGreatDoorKh
import Derived.Test.YtnjaikomoljmjaaGreatDoorCr5
set_option linter.unusedVariables false
set_option linter.unusedSimpArgs false
namespace Go.Proofs.YtnjaikomoljmjaaGreatDoor
open Go.RowKit Go.Shelf Lum
open Go.Lib (decDigits itoa)
attribute [local go_sem] bs_get bs_extract_end bs_extract_from bs_extract bs_append

set_option maxRecDepth 100000 in
set_option maxHeartbeats 4000000 in
theorem law_comes (E R D L t z : Int) (w : World) (env : Env w) :
    Calls Tryz.prog 8 #[.agg #[.int .i64 E, .int .i64 R, .int .i64 D, .int .i64 L], .int .i64 t, .int .i64 z] w fun e w' => e = .returned (.bool (true)) ∧ Below w.heap.size w w' := by
  have hx := CBox.new w 23 E R D L
  have hb := (Below.refl w.heap.size w).alloc (Nat.le_refl _) (.cells #[.int .i64 E, .int .i64 R, .int .i64 D, .int .i64 L] 23)
  have hob := fun W => own_clk_back E R D L t W
  have hrb := fun W => r23_back E R D L t W
  have how := fun W (e : Env W) => own_clk_when E R D L z W e
  have hrw := fun W => r23_when E R D L z W
  generalize backT E R D L t = v at hob hrb
  obtain ⟨⟨x0, x1, x2, x3⟩, m⟩ := v
  unfold clkV at hob hrb
  dsimp only at hob hrb
  generalize whenT E R D L z = v at how hrw
  obtain ⟨s, b, n⟩ := v
  dsimp only at how hrw
  have HOB := Lib.hid hob; clear hob
  have HRB := Lib.hid hrb; clear hrb
  have HOW := Lib.hid how; clear how
  have HRW := Lib.hid hrw; clear hrw
  have ENV := Lib.hid env; clear env
  go_enter Tryz.func8, Tryz.ntmps8
  go_wp2_with fail
  generalize w.alloc (.cells #[.int .i64 E, .int .i64 R, .int .i64 D, .int .i64 L] 23) = W0 at *
  have HX := Lib.hid hx
  obtain ⟨c0, c1, c2, c3, d0, d1, d2, d3, cl⟩ := hx
  have HB := Lib.hid hb; clear hb
  go_wp2_with fail
  refine (HOB.out _).mono ?_
  rintro e w1 ⟨rfl, hb1⟩
  have hal1 := (Below.refl w1.heap.size w1).alloc (Nat.le_refl _) (.cells #[.int .i64 x0, .int .i64 x1, .int .i64 x2, .int .i64 x3] 23)
  replace HX := Lib.hid ((HX.out.keep hb1).keep hal1)
  have HA := Lib.hid (CBox.new w1 23 x0 x1 x2 x3)
  replace HB := Lib.hid (bch' (bch' HB.out hb1) hal1); clear hb1 hal1
  clear c0 c1 c2 c3 d0 d1 d2 d3 cl
  obtain ⟨c0, c1, c2, c3, d0, d1, d2, d3, cl⟩ := HX.out
  go_wp2_with fail
  generalize w1.alloc (.cells #[.int .i64 x0, .int .i64 x1, .int .i64 x2, .int .i64 x3] 23) = W1 at *
  refine (HRB.out _).mono ?_
  rintro e w2 ⟨rfl, hb2⟩
  have hal2 := (Below.refl w2.heap.size w2).alloc (Nat.le_refl _) (.cells #[.int .i64 x0, .int .i64 x1, .int .i64 x2, .int .i64 x3] 23)
  replace HX := Lib.hid ((HX.out.keep hb2).keep hal2)
  replace HA := Lib.hid ((HA.out.keep hb2).keep hal2)
  have HC := Lib.hid (CBox.new w2 23 x0 x1 x2 x3)
  replace HB := Lib.hid (bch' (bch' HB.out hb2) hal2); clear hb2 hal2
  clear c0 c1 c2 c3 d0 d1 d2 d3 cl
  obtain ⟨c0, c1, c2, c3, d0, d1, d2, d3, cl⟩ := HX.out
  go_wp2_with fail
  generalize w2.alloc (.cells #[.int .i64 x0, .int .i64 x1, .int .i64 x2, .int .i64 x3] 23) = W2 at *
  refine (HOW.out _ (ENV.out.below HB.out)).mono ?_
  rintro e w3 ⟨rfl, hb3⟩
  replace HX := Lib.hid (HX.out.keep hb3)
  replace HA := Lib.hid (HA.out.keep hb3)
  replace HC := Lib.hid (HC.out.keep hb3)
  replace HB := Lib.hid (bch' HB.out hb3); clear hb3
  clear c0 c1 c2 c3 d0 d1 d2 d3 cl
  obtain ⟨c0, c1, c2, c3, d0, d1, d2, d3, cl⟩ := HX.out
  go_wp2_with fail
  refine (HRW.out _).mono ?_
  rintro e w4 ⟨rfl, hb4⟩
  replace HA := Lib.hid (HA.out.keep hb4)
  replace HC := Lib.hid (HC.out.keep hb4)
  replace HB := Lib.hid (bch' HB.out hb4); clear hb4
  clear c0 c1 c2 c3 d0 d1 d2 d3 cl
  go_wp2_with fail
  refine (law23_awake _ (ENV.out.below HB.out)).mono ?_
  rintro e w5 ⟨rfl, hb5⟩
  replace HA := Lib.hid (HA.out.keep hb5)
  replace HC := Lib.hid (HC.out.keep hb5)
  replace HB := Lib.hid (bch' HB.out hb5); clear hb5
  obtain ⟨a0, a1, a2, a3, f0, f1, f2, f3, al⟩ := HA.out
  obtain ⟨p0, p1, p2, p3, q0, q1, q2, q3, pl⟩ := HC.out
  go_wp2
  go_ret
  exact ⟨rfl, HB.out⟩
end Go.Proofs.YtnjaikomoljmjaaGreatDoor
