/-
  The law ClockTurns: the walk.
-/
import Derived.Test.YtnjaikomoljmjaaGreatDoorKh
import Derived.Test.YtnjaikomoljmjaaGreatDoorKg
set_option linter.unusedVariables false
set_option linter.unusedSimpArgs false
namespace Lum
open Go Go.RowKit Go.Shelf
/-- A row's cell, kept. -/
theorem keep1 {W W' : World} {B o : Nat} {v : Value} (h : W.cell? ⟨B, o, none⟩ = some v) (hb : Below W.heap.size W W') : W'.cell? ⟨B, o, none⟩ = some v :=
  (hb.cell (p := ⟨B, o, none⟩) (World.block_lt_of_cell? W _ h)).trans h
theorem run_store_func (P : Program) (w : World) (a : Addr) (m : Mode) (f : Fn) (x y : Array Value) : (store a (.func f x y) m).run P w = stored P w a (.func f x y) m := run_store P w a _ m rfl
end Lum
namespace Go.Proofs.YtnjaikomoljmjaaGreatDoor
open Go.RowKit Go.Shelf Lum
attribute [local go_sem] bs_get bs_extract_end bs_extract_from bs_extract bs_append run_store_func

set_option maxRecDepth 100000 in
set_option maxHeartbeats 8000000 in
theorem law_turns (E R D L t z : Int) (w : World) (env : Env w) : Calls Tryz.prog 7 #[.agg #[.int .i64 E, .int .i64 R, .int .i64 D, .int .i64 L], .int .i64 t, .int .i64 z] w fun e w' => e = .returned (.bool true) ∧ Below w.heap.size w w' := by
  have ENV := Lib.hid env; clear env
  have hx := (CBox.new w 23 E R D L)
  have hb0 := (Below.refl w.heap.size w).alloc (Nat.le_refl _) (.cells #[.int .i64 E, .int .i64 R, .int .i64 D, .int .i64 L] 23)
  have ho0 := fun W => own_clk_move E R D L t W
  have hr0 := fun W => r23_move E R D L t W
  generalize chgT (fun R D => (R, D)) E R D L t true = v at ho0 hr0
  obtain ⟨⟨x0a, x0b, x0c, x0d⟩, m0⟩ := v
  unfold clkV at ho0 hr0
  dsimp only at ho0 hr0
  have HO0 := Lib.hid ho0; clear ho0
  have HR0 := Lib.hid hr0; clear hr0
  have ho1 := fun W => own_clk_pause E R D L t W
  have hr1 := fun W => r23_pause E R D L t W
  generalize chgT (fun R D => (R, 0)) E R D L t true = v at ho1 hr1
  obtain ⟨⟨x1a, x1b, x1c, x1d⟩, m1⟩ := v
  unfold clkV at ho1 hr1
  dsimp only at ho1 hr1
  have HO1 := Lib.hid ho1; clear ho1
  have HR1 := Lib.hid hr1; clear hr1
  have ho2 := fun W => own_clk_resume E R D L t W
  have hr2 := fun W => r23_resume E R D L t W
  generalize chgT (fun R D => (R, 1)) E R D L t true = v at ho2 hr2
  obtain ⟨⟨x2a, x2b, x2c, x2d⟩, m2⟩ := v
  unfold clkV at ho2 hr2
  dsimp only at ho2 hr2
  have HO2 := Lib.hid ho2; clear ho2
  have HR2 := Lib.hid hr2; clear hr2
  have ho3 := fun W => own_clk_reverse E R D L t W
  have hr3 := fun W => r23_reverse E R D L t W
  generalize chgT (fun R D => (R, -1)) E R D L t true = v at ho3 hr3
  obtain ⟨⟨x3a, x3b, x3c, x3d⟩, m3⟩ := v
  unfold clkV at ho3 hr3
  dsimp only at ho3 hr3
  have HO3 := Lib.hid ho3; clear ho3
  have HR3 := Lib.hid hr3; clear hr3
  have hpo := fun W => own_clk_rate E R D L t z W
  have hpr := fun W => r23_rate E R D L t z W
  generalize chgT (fun R D => (z, D)) E R D L t (wiB z 1 400) = v at hpo hpr
  obtain ⟨⟨y0, y1, y2, y3⟩, n⟩ := v
  unfold clkV at hpo hpr
  dsimp only at hpo hpr
  have HPO := Lib.hid hpo; clear hpo
  have HPR := Lib.hid hpr; clear hpr
  have hrow : ∀ j v, (#[.func (.func 36) #[] #[], .func (.func 38) #[] #[], .func (.func 37) #[] #[], .func (.func 39) #[] #[], .func (.func 40) #[] #[], .func (.func 41) #[] #[], .func (.func 28) #[] #[], .func (.func 42) #[] #[]] : Array Value)[j]? = some v → ((w.alloc (.cells #[.int .i64 E, .int .i64 R, .int .i64 D, .int .i64 L] 23)).alloc (.cells #[.func (.func 36) #[] #[], .func (.func 38) #[] #[], .func (.func 37) #[] #[], .func (.func 39) #[] #[], .func (.func 40) #[] #[], .func (.func 41) #[] #[], .func (.func 28) #[] #[], .func (.func 42) #[] #[]] 53)).cell? ⟨w.heap.size + 1, j, none⟩ = some v := fun j v h => by
    have := World.cell?_alloc_new (w.alloc (.cells #[.int .i64 E, .int .i64 R, .int .i64 D, .int .i64 L] 23)) #[.func (.func 36) #[] #[], .func (.func 38) #[] #[], .func (.func 37) #[] #[], .func (.func 39) #[] #[], .func (.func 40) #[] #[], .func (.func 41) #[] #[], .func (.func 28) #[] #[], .func (.func 42) #[] #[]] 53 j
    rw [World.size_alloc] at this
    rw [this]; exact h
  have q0 := hrow 0 _ rfl
  have q1 := hrow 1 _ rfl
  have q2 := hrow 2 _ rfl
  have q3 := hrow 3 _ rfl
  have q4 := hrow 4 _ rfl
  have q5 := hrow 5 _ rfl
  have q6 := hrow 6 _ rfl
  have q7 := hrow 7 _ rfl
  clear hrow
  have hx0 := hx.alloc (.cells #[.func (.func 36) #[] #[], .func (.func 38) #[] #[], .func (.func 37) #[] #[], .func (.func 39) #[] #[], .func (.func 40) #[] #[], .func (.func 41) #[] #[], .func (.func 28) #[] #[], .func (.func 42) #[] #[]] 53)
  have hb1 := hb0.alloc (by simp) (.cells #[.func (.func 36) #[] #[], .func (.func 38) #[] #[], .func (.func 37) #[] #[], .func (.func 39) #[] #[], .func (.func 40) #[] #[], .func (.func 41) #[] #[], .func (.func 28) #[] #[], .func (.func 42) #[] #[]] 53)
  clear hx hb0
  go_enter Tryz.func7, Tryz.ntmps7
  go_wp2
  generalize (w.alloc (.cells #[.int .i64 E, .int .i64 R, .int .i64 D, .int .i64 L] 23)).alloc (.cells #[.func (.func 36) #[] #[], .func (.func 38) #[] #[], .func (.func 37) #[] #[], .func (.func 39) #[] #[], .func (.func 40) #[] #[], .func (.func 41) #[] #[], .func (.func 28) #[] #[], .func (.func 42) #[] #[]] 53) = W0 at *
  have HX := Lib.hid hx0; clear hx0
  have HB := Lib.hid hb1; clear hb1
  have Q0 := Lib.hid q0; clear q0
  have Q1 := Lib.hid q1; clear q1
  have Q2 := Lib.hid q2; clear q2
  have Q3 := Lib.hid q3; clear q3
  have Q4 := Lib.hid q4; clear q4
  have Q5 := Lib.hid q5; clear q5
  have Q6 := Lib.hid q6; clear q6
  have Q7 := Lib.hid q7; clear q7
  go_loopw [8, 9, 10, 11, 12, 23] (fun _ _ _ _ _ k wr => (k = .int .i64 0 ∨ k = .int .i64 1 ∨ k = .int .i64 2 ∨ k = .int .i64 3 ∨ k = .int .i64 4) ∧ Below W0.heap.size W0 wr) (fun _ _ _ _ _ k _ => 4 - (intOf k).toNat)
  case atStart => exact ⟨.inl rfl, Below.refl _ _⟩
  case round =>
    obtain ⟨rfl | rfl | rfl | rfl | rfl, hb⟩ := hrel
    · have e0 := keep1 Q0.out hb
      have e1 := keep1 Q1.out hb
      have hxr := HX.out.keep hb
      have hal := (Below.refl wr.heap.size wr).alloc (Nat.le_refl _) (.cells #[.func (.func 36) #[] #[], .func (.func 38) #[] #[]] 53)
      have XR := Lib.hid (hxr.keep hal)
      have s1 : (wr.alloc (.cells #[.func (.func 36) #[] #[], .func (.func 38) #[] #[]] 53)).cell? ⟨wr.heap.size, 1, none⟩ = some (.func (.func 38) #[] #[]) := by rw [World.cell?_alloc_new]; rfl
      have S1 := Lib.hid s1; clear s1
      have BR := Lib.hid (bch' hb hal); clear hal hb
      obtain ⟨c0, c1, c2, c3, d0, d1, d2, d3, clt⟩ := hxr
      go_wp2_with fail
      generalize wr.alloc (.cells #[.func (.func 36) #[] #[], .func (.func 38) #[] #[]] 53) = WA at *
      refine (HO0.out _).mono ?_
      rintro e w1 ⟨rfl, hb1⟩
      have hal1 := (Below.refl w1.heap.size w1).alloc (Nat.le_refl _) (.cells #[.int .i64 x0a, .int .i64 x0b, .int .i64 x0c, .int .i64 x0d] 23)
      have XR1 := Lib.hid ((XR.out.keep hb1).keep hal1)
      have s2 := keep1 (keep1 S1.out hb1) hal1
      have YR1 := Lib.hid (CBox.new w1 23 x0a x0b x0c x0d)
      have BR1 := Lib.hid (bch' (bch' BR.out hb1) hal1); clear hb1 hal1
      clear c0 c1 c2 c3 d0 d1 d2 d3 clt e0 e1
      obtain ⟨c0, c1, c2, c3, d0, d1, d2, d3, clt⟩ := XR1.out
      go_wp2_with fail
      generalize w1.alloc (.cells #[.int .i64 x0a, .int .i64 x0b, .int .i64 x0c, .int .i64 x0d] 23) = W1 at *
      refine (HR0.out _).mono ?_
      rintro e w2 ⟨rfl, hb2⟩
      have hal2 := (Below.refl w2.heap.size w2).alloc (Nat.le_refl _) (.cells #[.int .i64 x0a, .int .i64 x0b, .int .i64 x0c, .int .i64 x0d] 23)
      have z0 := (YR1.out.keep hb2).keep hal2
      have z1 := YR1.out.keep hb2
      have BR2 := Lib.hid (bch' (bch' BR1.out hb2) hal2); clear hb2 hal2 s2
      clear c0 c1 c2 c3 d0 d1 d2 d3 clt
      obtain ⟨c0, c1, c2, c3, d0, d1, d2, d3, clt⟩ := z0
      obtain ⟨p0, p1, p2, p3, r0, r1, r2, r3, plt⟩ := z1
      go_wp2
      go_roundw
      case rel => exact ⟨.inr (.inl rfl), BR2.out⟩
      case measure => simp [intOf]
    · have e0 := keep1 Q2.out hb
      have e1 := keep1 Q3.out hb
      have hxr := HX.out.keep hb
      have hal := (Below.refl wr.heap.size wr).alloc (Nat.le_refl _) (.cells #[.func (.func 37) #[] #[], .func (.func 39) #[] #[]] 53)
      have XR := Lib.hid (hxr.keep hal)
      have s1 : (wr.alloc (.cells #[.func (.func 37) #[] #[], .func (.func 39) #[] #[]] 53)).cell? ⟨wr.heap.size, 1, none⟩ = some (.func (.func 39) #[] #[]) := by rw [World.cell?_alloc_new]; rfl
      have S1 := Lib.hid s1; clear s1
      have BR := Lib.hid (bch' hb hal); clear hal hb
      obtain ⟨c0, c1, c2, c3, d0, d1, d2, d3, clt⟩ := hxr
      go_wp2_with fail
      generalize wr.alloc (.cells #[.func (.func 37) #[] #[], .func (.func 39) #[] #[]] 53) = WA at *
      refine (HO1.out _).mono ?_
      rintro e w1 ⟨rfl, hb1⟩
      have hal1 := (Below.refl w1.heap.size w1).alloc (Nat.le_refl _) (.cells #[.int .i64 x1a, .int .i64 x1b, .int .i64 x1c, .int .i64 x1d] 23)
      have XR1 := Lib.hid ((XR.out.keep hb1).keep hal1)
      have s2 := keep1 (keep1 S1.out hb1) hal1
      have YR1 := Lib.hid (CBox.new w1 23 x1a x1b x1c x1d)
      have BR1 := Lib.hid (bch' (bch' BR.out hb1) hal1); clear hb1 hal1
      clear c0 c1 c2 c3 d0 d1 d2 d3 clt e0 e1
      obtain ⟨c0, c1, c2, c3, d0, d1, d2, d3, clt⟩ := XR1.out
      go_wp2_with fail
      generalize w1.alloc (.cells #[.int .i64 x1a, .int .i64 x1b, .int .i64 x1c, .int .i64 x1d] 23) = W1 at *
      refine (HR1.out _).mono ?_
      rintro e w2 ⟨rfl, hb2⟩
      have hal2 := (Below.refl w2.heap.size w2).alloc (Nat.le_refl _) (.cells #[.int .i64 x1a, .int .i64 x1b, .int .i64 x1c, .int .i64 x1d] 23)
      have z0 := (YR1.out.keep hb2).keep hal2
      have z1 := YR1.out.keep hb2
      have BR2 := Lib.hid (bch' (bch' BR1.out hb2) hal2); clear hb2 hal2 s2
      clear c0 c1 c2 c3 d0 d1 d2 d3 clt
      obtain ⟨c0, c1, c2, c3, d0, d1, d2, d3, clt⟩ := z0
      obtain ⟨p0, p1, p2, p3, r0, r1, r2, r3, plt⟩ := z1
      go_wp2
      go_roundw
      case rel => exact ⟨.inr (.inr (.inl rfl)), BR2.out⟩
      case measure => simp [intOf]
    · have e0 := keep1 Q4.out hb
      have e1 := keep1 Q5.out hb
      have hxr := HX.out.keep hb
      have hal := (Below.refl wr.heap.size wr).alloc (Nat.le_refl _) (.cells #[.func (.func 40) #[] #[], .func (.func 41) #[] #[]] 53)
      have XR := Lib.hid (hxr.keep hal)
      have s1 : (wr.alloc (.cells #[.func (.func 40) #[] #[], .func (.func 41) #[] #[]] 53)).cell? ⟨wr.heap.size, 1, none⟩ = some (.func (.func 41) #[] #[]) := by rw [World.cell?_alloc_new]; rfl
      have S1 := Lib.hid s1; clear s1
      have BR := Lib.hid (bch' hb hal); clear hal hb
      obtain ⟨c0, c1, c2, c3, d0, d1, d2, d3, clt⟩ := hxr
      go_wp2_with fail
      generalize wr.alloc (.cells #[.func (.func 40) #[] #[], .func (.func 41) #[] #[]] 53) = WA at *
      refine (HO2.out _).mono ?_
      rintro e w1 ⟨rfl, hb1⟩
      have hal1 := (Below.refl w1.heap.size w1).alloc (Nat.le_refl _) (.cells #[.int .i64 x2a, .int .i64 x2b, .int .i64 x2c, .int .i64 x2d] 23)
      have XR1 := Lib.hid ((XR.out.keep hb1).keep hal1)
      have s2 := keep1 (keep1 S1.out hb1) hal1
      have YR1 := Lib.hid (CBox.new w1 23 x2a x2b x2c x2d)
      have BR1 := Lib.hid (bch' (bch' BR.out hb1) hal1); clear hb1 hal1
      clear c0 c1 c2 c3 d0 d1 d2 d3 clt e0 e1
      obtain ⟨c0, c1, c2, c3, d0, d1, d2, d3, clt⟩ := XR1.out
      go_wp2_with fail
      generalize w1.alloc (.cells #[.int .i64 x2a, .int .i64 x2b, .int .i64 x2c, .int .i64 x2d] 23) = W1 at *
      refine (HR2.out _).mono ?_
      rintro e w2 ⟨rfl, hb2⟩
      have hal2 := (Below.refl w2.heap.size w2).alloc (Nat.le_refl _) (.cells #[.int .i64 x2a, .int .i64 x2b, .int .i64 x2c, .int .i64 x2d] 23)
      have z0 := (YR1.out.keep hb2).keep hal2
      have z1 := YR1.out.keep hb2
      have BR2 := Lib.hid (bch' (bch' BR1.out hb2) hal2); clear hb2 hal2 s2
      clear c0 c1 c2 c3 d0 d1 d2 d3 clt
      obtain ⟨c0, c1, c2, c3, d0, d1, d2, d3, clt⟩ := z0
      obtain ⟨p0, p1, p2, p3, r0, r1, r2, r3, plt⟩ := z1
      go_wp2
      go_roundw
      case rel => exact ⟨.inr (.inr (.inr (.inl rfl))), BR2.out⟩
      case measure => simp [intOf]
    · have e0 := keep1 Q6.out hb
      have e1 := keep1 Q7.out hb
      have hxr := HX.out.keep hb
      have hal := (Below.refl wr.heap.size wr).alloc (Nat.le_refl _) (.cells #[.func (.func 28) #[] #[], .func (.func 42) #[] #[]] 53)
      have XR := Lib.hid (hxr.keep hal)
      have s1 : (wr.alloc (.cells #[.func (.func 28) #[] #[], .func (.func 42) #[] #[]] 53)).cell? ⟨wr.heap.size, 1, none⟩ = some (.func (.func 42) #[] #[]) := by rw [World.cell?_alloc_new]; rfl
      have S1 := Lib.hid s1; clear s1
      have BR := Lib.hid (bch' hb hal); clear hal hb
      obtain ⟨c0, c1, c2, c3, d0, d1, d2, d3, clt⟩ := hxr
      go_wp2_with fail
      generalize wr.alloc (.cells #[.func (.func 28) #[] #[], .func (.func 42) #[] #[]] 53) = WA at *
      refine (HO3.out _).mono ?_
      rintro e w1 ⟨rfl, hb1⟩
      have hal1 := (Below.refl w1.heap.size w1).alloc (Nat.le_refl _) (.cells #[.int .i64 x3a, .int .i64 x3b, .int .i64 x3c, .int .i64 x3d] 23)
      have XR1 := Lib.hid ((XR.out.keep hb1).keep hal1)
      have s2 := keep1 (keep1 S1.out hb1) hal1
      have YR1 := Lib.hid (CBox.new w1 23 x3a x3b x3c x3d)
      have BR1 := Lib.hid (bch' (bch' BR.out hb1) hal1); clear hb1 hal1
      clear c0 c1 c2 c3 d0 d1 d2 d3 clt e0 e1
      obtain ⟨c0, c1, c2, c3, d0, d1, d2, d3, clt⟩ := XR1.out
      go_wp2_with fail
      generalize w1.alloc (.cells #[.int .i64 x3a, .int .i64 x3b, .int .i64 x3c, .int .i64 x3d] 23) = W1 at *
      refine (HR3.out _).mono ?_
      rintro e w2 ⟨rfl, hb2⟩
      have hal2 := (Below.refl w2.heap.size w2).alloc (Nat.le_refl _) (.cells #[.int .i64 x3a, .int .i64 x3b, .int .i64 x3c, .int .i64 x3d] 23)
      have z0 := (YR1.out.keep hb2).keep hal2
      have z1 := YR1.out.keep hb2
      have BR2 := Lib.hid (bch' (bch' BR1.out hb2) hal2); clear hb2 hal2 s2
      clear c0 c1 c2 c3 d0 d1 d2 d3 clt
      obtain ⟨c0, c1, c2, c3, d0, d1, d2, d3, clt⟩ := z0
      obtain ⟨p0, p1, p2, p3, r0, r1, r2, r3, plt⟩ := z1
      go_wp2
      go_roundw
      case rel => exact ⟨.inr (.inr (.inr (.inr rfl))), BR2.out⟩
      case measure => simp [intOf]
    · have hxr := HX.out.keep hb
      have BR := Lib.hid (bch' HB.out hb); clear hb
      have XR := Lib.hid hxr
      obtain ⟨c0, c1, c2, c3, d0, d1, d2, d3, clt⟩ := hxr
      go_wp2_with fail
      refine (HPO.out _).mono ?_
      rintro e w1 ⟨rfl, hb1⟩
      have hal1 := (Below.refl w1.heap.size w1).alloc (Nat.le_refl _) (.cells #[.int .i64 y0, .int .i64 y1, .int .i64 y2, .int .i64 y3] 23)
      have XR1 := Lib.hid ((XR.out.keep hb1).keep hal1)
      have YR1 := Lib.hid (CBox.new w1 23 y0 y1 y2 y3)
      have BR1 := Lib.hid (bch' (bch' BR.out hb1) hal1); clear hb1 hal1
      clear c0 c1 c2 c3 d0 d1 d2 d3 clt
      obtain ⟨c0, c1, c2, c3, d0, d1, d2, d3, clt⟩ := XR1.out
      go_wp2_with fail
      generalize w1.alloc (.cells #[.int .i64 y0, .int .i64 y1, .int .i64 y2, .int .i64 y3] 23) = W1 at *
      refine (HPR.out _).mono ?_
      rintro e w2 ⟨rfl, hb2⟩
      have hal2 := (Below.refl w2.heap.size w2).alloc (Nat.le_refl _) (.cells #[.int .i64 y0, .int .i64 y1, .int .i64 y2, .int .i64 y3] 23)
      have z0 := (YR1.out.keep hb2).keep hal2
      have z1 := YR1.out.keep hb2
      have BR2 := Lib.hid (bch' (bch' BR1.out hb2) hal2); clear hb2 hal2
      clear c0 c1 c2 c3 d0 d1 d2 d3 clt
      obtain ⟨c0, c1, c2, c3, d0, d1, d2, d3, clt⟩ := z0
      obtain ⟨p0, p1, p2, p3, r0, r1, r2, r3, plt⟩ := z1
      go_wp2_with fail
      refine (law23_awake _ (ENV.out.below BR2.out)).mono ?_
      rintro e w3 ⟨rfl, hb3⟩
      go_wp2
      go_ret
      exact ⟨rfl, bch' BR2.out hb3⟩
end Go.Proofs.YtnjaikomoljmjaaGreatDoor
