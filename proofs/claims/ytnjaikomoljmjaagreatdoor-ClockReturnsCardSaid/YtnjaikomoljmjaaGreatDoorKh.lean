/-
  The law's own examples for clocks.
  The law ClockShows: the walk.
-/
import Derived.Test.YtnjaikomoljmjaaGreatDoorKg
set_option linter.unusedVariables false
set_option linter.unusedSimpArgs false
namespace Lum
open Go Go.RowKit Go.Shelf
open Go.Lib (decDigits itoa)
theorem itoa_of (n : Int) (l : Txt) (h1 : shaped l = true) (h2 : zOf l = n) : itoa n = l := by rw [← h2]; exact itoa_zOf l h1
theorem dec_of (n : Nat) (l : Txt) (h1 : shaped l = true) (h2 : zOf l = (n : Int)) : decDigits n = l := by rw [← itoa_nat]; exact itoa_of n l h1 h2
theorem showR_of (q : Rat) (n : Int) (d : Nat) (tn td : Txt) (hn : q.num = n) (hd : q.den = d) (h1 : d ≠ 1) (h2 : shaped tn = true) (h3 : zOf tn = n) (h4 : shaped td = true) (h5 : zOf td = (d : Int)) : showR q = tn ++ 47 :: td := by
  rw [showR, if_neg (by rw [hd]; exact h1), hn, hd, itoa_of n tn h2 h3, dec_of d td h4 h5]
theorem showR_whole (q : Rat) (n : Int) (tn : Txt) (hn : q.num = n) (hd : q.den = 1) (h2 : shaped tn = true) (h3 : zOf tn = n) : showR q = tn := by
  rw [showR, if_pos hd, hn, itoa_of n tn h2 h3]
theorem when_a : whenT 80000 150 (-1) 1700 0 = ([54, 55, 48, 48, 47, 51], true, 0) := by
  unfold whenT
  rw [if_neg (by decide), if_neg (by decide), if_neg (by decide)]
  rw [showR_of _ 6700 3 [54, 55, 48, 48] [51] (by decide +kernel) (by decide +kernel) (by decide) (by decide) (by decide) (by decide) (by decide)]
  rfl
theorem when_b : whenT 300 100 0 7 300 = ([55], true, 0) := by
  unfold whenT
  rw [if_neg (by decide), if_neg (by decide), if_neg (by decide)]
  rw [showR_whole _ 7 [55] (by decide +kernel) (by decide +kernel) (by decide) (by decide)]
theorem when_c : whenT 300 100 0 7 301 = ([], false, 0) := by
  unfold whenT
  rw [if_neg (by decide), if_neg (by decide), if_pos (by decide)]
end Lum
namespace Go.Proofs.YtnjaikomoljmjaaGreatDoor
open Go.RowKit Go.Shelf Lum
attribute [local go_sem] bs_get bs_extract_end bs_extract_from bs_extract bs_append

theorem aw_new (w : World) : Calls Tryz.prog 20 #[.int .i64 1000] w fun e w' => e = .returned (.tuple #[.agg #[.int .i64 0, .int .i64 100, .int .i64 1, .int .i64 1000], .int .i64 0]) ∧ Below w.heap.size w w' := own_clk_new 1000 w
theorem at_val (E R D L t x : Int) (h : moE E R D L t = 0) (h2 : shZ E R D L t = x) (w : World) : Calls Tryz.prog 18 #[.agg #[.int .i64 E, .int .i64 R, .int .i64 D, .int .i64 L], .int .i64 t] w fun e w' => e = .returned (.tuple #[.int .i64 x, .int .i64 0]) ∧ Below w.heap.size w w' := by
  have := own_clk_at E R D L t w
  rw [h, if_pos rfl, h2] at this
  exact this
theorem aw_rate (w : World) : Calls Tryz.prog 29 #[.agg #[.int .i64 0, .int .i64 100, .int .i64 1, .int .i64 1000], .int .i64 1500, .int .i64 150] w fun e w' => e = .returned (.tuple #[.agg #[.int .i64 50000, .int .i64 150, .int .i64 1, .int .i64 1500], .int .i64 0]) ∧ Below w.heap.size w w' := by
  have := own_clk_rate 0 100 1 1000 1500 150 w
  have e : chgT (fun R D => (150, D)) 0 100 1 1000 1500 (wiB 150 1 400) = ((50000, 150, 1, 1500), 0) := by decide
  rw [e] at this
  exact this
theorem aw_rev (w : World) : Calls Tryz.prog 28 #[.agg #[.int .i64 50000, .int .i64 150, .int .i64 1, .int .i64 1500], .int .i64 1700] w fun e w' => e = .returned (.tuple #[.agg #[.int .i64 80000, .int .i64 150, .int .i64 (-1), .int .i64 1700], .int .i64 0]) ∧ Below w.heap.size w w' := by
  have := own_clk_reverse 50000 150 1 1500 1700 w
  have e : chgT (fun R D => (R, -1)) 50000 150 1 1500 1700 true = ((80000, 150, -1, 1700), 0) := by decide
  rw [e] at this
  exact this
theorem aw_when_a (w : World) (env : Env w) : Calls Tryz.prog 30 #[.agg #[.int .i64 80000, .int .i64 150, .int .i64 (-1), .int .i64 1700], .int .i64 0] w fun e w' => e = .returned (.tuple #[.string ⟨#[54, 55, 48, 48, 47, 51]⟩, .bool true, .int .i64 0]) ∧ Below w.heap.size w w' := by
  have := own_clk_when 80000 150 (-1) 1700 0 w env
  rw [when_a] at this
  exact this
theorem aw_when_b (w : World) (env : Env w) : Calls Tryz.prog 30 #[.agg #[.int .i64 300, .int .i64 100, .int .i64 0, .int .i64 7], .int .i64 300] w fun e w' => e = .returned (.tuple #[.string ⟨#[55]⟩, .bool true, .int .i64 0]) ∧ Below w.heap.size w w' := by
  have := own_clk_when 300 100 0 7 300 w env
  rw [when_b] at this
  exact this
theorem aw_when_c (w : World) (env : Env w) : Calls Tryz.prog 30 #[.agg #[.int .i64 300, .int .i64 100, .int .i64 0, .int .i64 7], .int .i64 301] w fun e w' => e = .returned (.tuple #[.string ⟨#[]⟩, .bool false, .int .i64 0]) ∧ Below w.heap.size w w' := by
  have := own_clk_when 300 100 0 7 301 w env
  rw [when_c] at this
  exact this

set_option maxRecDepth 100000 in
set_option maxHeartbeats 4000000 in
theorem law23_awake (w : World) (env : Env w) : Calls Tryz.prog 22 #[] w fun e w' => e = .returned (.bool true) ∧ Below w.heap.size w w' := by
  have a1 := fun W => at_val 0 100 1 1000 1500 50000 (by decide) (by decide) W
  have a2 := fun W => at_val 50000 150 1 1500 1700 80000 (by decide) (by decide) W
  have a3 := fun W => at_val 80000 150 (-1) 1700 2100 20000 (by decide) (by decide) W
  have a4 := fun W => at_val 80000 150 (-1) 1700 2233 50 (by decide) (by decide) W
  have a5 := fun W => at_val 80000 150 (-1) 1700 2234 0 (by decide) (by decide) W
  have A1 := Lib.hid a1; clear a1
  have A2 := Lib.hid a2; clear a2
  have A3 := Lib.hid a3; clear a3
  have A4 := Lib.hid a4; clear a4
  have A5 := Lib.hid a5; clear a5
  have ENV := Lib.hid env; clear env
  go_enter Tryz.func22, Tryz.ntmps22
  go_wp2_with fail
  refine (aw_new _).mono ?_
  rintro e w1 ⟨rfl, hb1⟩
  have x1 := CBox.new w1 23 0 100 1 1000
  have HB1 := Lib.hid (bch' hb1 ((Below.refl w1.heap.size w1).alloc (Nat.le_refl _) (.cells #[.int .i64 0, .int .i64 100, .int .i64 1, .int .i64 1000] 23))); clear hb1
  go_wp2_with fail
  generalize w1.alloc (.cells #[.int .i64 0, .int .i64 100, .int .i64 1, .int .i64 1000] 23) = W1 at *
  refine (A1.out _).mono ?_
  rintro e w2 ⟨rfl, hb2⟩
  have x2 := x1.keep hb2
  have HB2 := Lib.hid (bch' HB1.out hb2); clear hb2 x1
  have X2 := Lib.hid x2
  obtain ⟨c0, c1, c2, c3, d0, d1, d2, d3, clt⟩ := x2
  go_wp2_with fail
  refine (aw_rate _).mono ?_
  rintro e w3 ⟨rfl, hb3⟩
  have x3 := CBox.new w3 23 50000 150 1 1500
  have HB3 := Lib.hid (bch' (bch' HB2.out hb3) ((Below.refl w3.heap.size w3).alloc (Nat.le_refl _) (.cells #[.int .i64 50000, .int .i64 150, .int .i64 1, .int .i64 1500] 23))); clear hb3
  clear c0 c1 c2 c3 d0 d1 d2 d3 clt
  go_wp2_with fail
  generalize w3.alloc (.cells #[.int .i64 50000, .int .i64 150, .int .i64 1, .int .i64 1500] 23) = W3 at *
  refine (A2.out _).mono ?_
  rintro e w4 ⟨rfl, hb4⟩
  have x4 := x3.keep hb4
  have HB4 := Lib.hid (bch' HB3.out hb4); clear hb4 x3
  obtain ⟨c0, c1, c2, c3, d0, d1, d2, d3, clt⟩ := x4
  go_wp2_with fail
  refine (aw_rev _).mono ?_
  rintro e w5 ⟨rfl, hb5⟩
  have x5 := CBox.new w5 23 80000 150 (-1) 1700
  have HB5 := Lib.hid (bch' (bch' HB4.out hb5) ((Below.refl w5.heap.size w5).alloc (Nat.le_refl _) (.cells #[.int .i64 80000, .int .i64 150, .int .i64 (-1), .int .i64 1700] 23))); clear hb5
  clear c0 c1 c2 c3 d0 d1 d2 d3 clt
  go_wp2_with fail
  generalize w5.alloc (.cells #[.int .i64 80000, .int .i64 150, .int .i64 (-1), .int .i64 1700] 23) = W5 at *
  refine (A3.out _).mono ?_
  rintro e w6 ⟨rfl, hb6⟩
  have x6 := x5.keep hb6
  have HB6 := Lib.hid (bch' HB5.out hb6); clear hb6 x5
  have X6 := Lib.hid x6
  obtain ⟨c0, c1, c2, c3, d0, d1, d2, d3, clt⟩ := x6
  go_wp2_with fail
  refine (A4.out _).mono ?_
  rintro e w7 ⟨rfl, hb7⟩
  have x7 := X6.out.keep hb7
  have HB7 := Lib.hid (bch' HB6.out hb7); clear hb7
  have X7 := Lib.hid x7
  clear c0 c1 c2 c3 d0 d1 d2 d3 clt
  obtain ⟨c0, c1, c2, c3, d0, d1, d2, d3, clt⟩ := x7
  go_wp2_with fail
  refine (A5.out _).mono ?_
  rintro e w8 ⟨rfl, hb8⟩
  have x8 := X7.out.keep hb8
  have HB8 := Lib.hid (bch' HB7.out hb8); clear hb8
  clear c0 c1 c2 c3 d0 d1 d2 d3 clt
  obtain ⟨c0, c1, c2, c3, d0, d1, d2, d3, clt⟩ := x8
  go_wp2_with fail
  refine (aw_when_a _ (ENV.out.below HB8.out)).mono ?_
  rintro e w9 ⟨rfl, hb9⟩
  have HB9 := Lib.hid (bch' HB8.out hb9); clear hb9
  clear c0 c1 c2 c3 d0 d1 d2 d3 clt
  go_wp2_with fail
  refine (aw_when_b _ (ENV.out.below HB9.out)).mono ?_
  rintro e w10 ⟨rfl, hb10⟩
  have HB10 := Lib.hid (bch' HB9.out hb10); clear hb10
  go_wp2_with fail
  refine (aw_when_c _ (ENV.out.below HB10.out)).mono ?_
  rintro e w11 ⟨rfl, hb11⟩
  have HB11 := Lib.hid (bch' HB10.out hb11); clear hb11
  go_wp2
  go_ret
  exact ⟨rfl, HB11.out⟩
end Go.Proofs.YtnjaikomoljmjaaGreatDoor
namespace Lum
open Go Go.RowKit Go.Shelf
/-- Four cells that hold a clock. -/
def Cl4 (W : World) (B : Nat) (E R D L : Int) : Prop :=
  W.cell? ⟨B, 0, none⟩ = some (.int .i64 E) ∧ W.cell? ⟨B, 1, none⟩ = some (.int .i64 R) ∧ W.cell? ⟨B, 2, none⟩ = some (.int .i64 D) ∧ W.cell? ⟨B, 3, none⟩ = some (.int .i64 L)
theorem Cl4.keep {W W' : World} {B : Nat} {E R D L : Int} (h : Cl4 W B E R D L) (hb : Below W.heap.size W W') : Cl4 W' B E R D L := by
  obtain ⟨h2, h3, h4, h5⟩ := h
  have l1 := World.block_lt_of_cell? W _ h2
  exact ⟨(hb.cell (p := ⟨B, 0, none⟩) l1).trans h2, (hb.cell (p := ⟨B, 1, none⟩) l1).trans h3, (hb.cell (p := ⟨B, 2, none⟩) l1).trans h4, (hb.cell (p := ⟨B, 3, none⟩) l1).trans h5⟩
theorem CBox.cl4 {W : World} {B : Nat} {E R D L : Int} (h : CBox W B E R D L) : Cl4 W B E R D L := ⟨h.a0, h.a1, h.a2, h.a3⟩
theorem keep12 {w W W' : World} {A B C : Nat} {E R D L e r d l e' r' d' l' : Int}
    (h : Below w.heap.size w W ∧ W.cell? ⟨A, 0, none⟩ = some (.int .i64 E) ∧ W.cell? ⟨A, 1, none⟩ = some (.int .i64 R) ∧ W.cell? ⟨A, 2, none⟩ = some (.int .i64 D) ∧ W.cell? ⟨A, 3, none⟩ = some (.int .i64 L) ∧ W.cell? ⟨B, 0, none⟩ = some (.int .i64 e) ∧ W.cell? ⟨B, 1, none⟩ = some (.int .i64 r) ∧ W.cell? ⟨B, 2, none⟩ = some (.int .i64 d) ∧ W.cell? ⟨B, 3, none⟩ = some (.int .i64 l) ∧ W.cell? ⟨C, 0, none⟩ = some (.int .i64 e') ∧ W.cell? ⟨C, 1, none⟩ = some (.int .i64 r') ∧ W.cell? ⟨C, 2, none⟩ = some (.int .i64 d') ∧ W.cell? ⟨C, 3, none⟩ = some (.int .i64 l')) (hb : Below W.heap.size W W') :
    Below w.heap.size w W' ∧ W'.cell? ⟨A, 0, none⟩ = some (.int .i64 E) ∧ W'.cell? ⟨A, 1, none⟩ = some (.int .i64 R) ∧ W'.cell? ⟨A, 2, none⟩ = some (.int .i64 D) ∧ W'.cell? ⟨A, 3, none⟩ = some (.int .i64 L) ∧ W'.cell? ⟨B, 0, none⟩ = some (.int .i64 e) ∧ W'.cell? ⟨B, 1, none⟩ = some (.int .i64 r) ∧ W'.cell? ⟨B, 2, none⟩ = some (.int .i64 d) ∧ W'.cell? ⟨B, 3, none⟩ = some (.int .i64 l) ∧ W'.cell? ⟨C, 0, none⟩ = some (.int .i64 e') ∧ W'.cell? ⟨C, 1, none⟩ = some (.int .i64 r') ∧ W'.cell? ⟨C, 2, none⟩ = some (.int .i64 d') ∧ W'.cell? ⟨C, 3, none⟩ = some (.int .i64 l') := by
  obtain ⟨h0, a0, a1, a2, a3, b0, b1, b2, b3, g0, g1, g2, g3⟩ := h
  obtain ⟨p0, p1, p2, p3⟩ := Cl4.keep (B := A) ⟨a0, a1, a2, a3⟩ hb
  obtain ⟨q0, q1, q2, q3⟩ := Cl4.keep (B := B) ⟨b0, b1, b2, b3⟩ hb
  obtain ⟨r0, r1, r2, r3⟩ := Cl4.keep (B := C) ⟨g0, g1, g2, g3⟩ hb
  exact ⟨bch' h0 hb, p0, p1, p2, p3, q0, q1, q2, q3, r0, r1, r2, r3⟩
end Lum
namespace Go.Proofs.YtnjaikomoljmjaaGreatDoor
open Go.RowKit Go.Shelf Lum
open Go.Lib (decDigits itoa)
attribute [local go_sem] bs_get bs_extract_end bs_extract_from bs_extract bs_append

set_option maxRecDepth 100000 in
set_option maxHeartbeats 4000000 in
theorem law_shows (E R D L t : Int) (w : World) (env : Env w) : Calls Tryz.prog 3 #[.agg #[.int .i64 E, .int .i64 R, .int .i64 D, .int .i64 L], .int .i64 t] w fun e w' => e = .returned (.bool true) ∧ Below w.heap.size w w' := by
  have hx := CBox.new w 23 E R D L
  have hb := (Below.refl w.heap.size w).alloc (Nat.le_refl _) (.cells #[.int .i64 E, .int .i64 R, .int .i64 D, .int .i64 L] 23)
  have hat := fun W => own_clk_at E R D L t W
  have hra := fun W => r23_at E R D L t W
  have hnw := fun W => own_clk_new t W
  have hrn := fun W => r23_new t W
  have hck := fun W => own_clk_check E R D L W
  have hrc := fun W => r23_check E R D L W
  generalize (if moE E R D L t = 0 then shZ E R D L t else 0) = z at hat hra
  generalize moE E R D L t = m at hat hra
  generalize (if wiB t 0 10000000 then (0, 100, 1, t) else (0, 0, 0, 0) : Int × Int × Int × Int) = v at hnw hrn
  generalize (if wiB t 0 10000000 then 0 else 2 : Int) = n at hnw hrn
  generalize ckE E R D L = c at hck hrc
  obtain ⟨x0, x1, x2, x3⟩ := v
  unfold clkV at hnw hrn
  dsimp only at hnw hrn
  have HAT := Lib.hid hat; clear hat
  have HRA := Lib.hid hra; clear hra
  have HNW := Lib.hid hnw; clear hnw
  have HRN := Lib.hid hrn; clear hrn
  have HCK := Lib.hid hck; clear hck
  have HRC := Lib.hid hrc; clear hrc
  have ENV := Lib.hid env; clear env
  go_enter Tryz.func3, Tryz.ntmps3
  go_wp2_with fail
  generalize w.alloc (.cells #[.int .i64 E, .int .i64 R, .int .i64 D, .int .i64 L] 23) = W0 at *
  have HX0 := Lib.hid hx
  obtain ⟨c0, c1, c2, c3, d0, d1, d2, d3, clt⟩ := hx
  have HB0 := Lib.hid hb; clear hb
  go_wp2_with fail
  refine (HAT.out _).mono ?_
  rintro e w1 ⟨rfl, hb1⟩
  have x1' := HX0.out.keep hb1
  have HB1 := Lib.hid (bch' HB0.out hb1); clear hb1
  have HX1 := Lib.hid x1'
  clear c0 c1 c2 c3 d0 d1 d2 d3 clt
  obtain ⟨c0, c1, c2, c3, d0, d1, d2, d3, clt⟩ := x1'
  go_wp2_with fail
  refine (HRA.out _).mono ?_
  rintro e w2 ⟨rfl, hb2⟩
  have HX2 := Lib.hid (HX1.out.keep hb2)
  have HB2 := Lib.hid (bch' HB1.out hb2); clear hb2
  clear c0 c1 c2 c3 d0 d1 d2 d3 clt
  go_wp2_with fail
  refine (HNW.out _).mono ?_
  rintro e w3 ⟨rfl, hb3⟩
  have hal3 := (Below.refl w3.heap.size w3).alloc (Nat.le_refl _) (.cells #[.int .i64 x0, .int .i64 x1, .int .i64 x2, .int .i64 x3] 23)
  have HX3 := Lib.hid ((HX2.out.keep hb3).keep hal3)
  have HY3 := Lib.hid (CBox.new w3 23 x0 x1 x2 x3)
  have HB3 := Lib.hid (bch' (bch' HB2.out hb3) hal3); clear hb3 hal3
  go_wp2_with fail
  generalize w3.alloc (.cells #[.int .i64 x0, .int .i64 x1, .int .i64 x2, .int .i64 x3] 23) = W3 at *
  refine (HRN.out _).mono ?_
  rintro e w4 ⟨rfl, hb4⟩
  have hal4 := (Below.refl w4.heap.size w4).alloc (Nat.le_refl _) (.cells #[.int .i64 x0, .int .i64 x1, .int .i64 x2, .int .i64 x3] 23)
  have HX4 := Lib.hid ((HX3.out.keep hb4).keep hal4)
  have HY4 := Lib.hid ((HY3.out.keep hb4).keep hal4)
  have HZ4 := Lib.hid (CBox.new w4 23 x0 x1 x2 x3)
  have HB4 := Lib.hid (bch' (bch' HB3.out hb4) hal4); clear hb4 hal4
  go_wp2_with fail
  generalize w4.alloc (.cells #[.int .i64 x0, .int .i64 x1, .int .i64 x2, .int .i64 x3] 23) = W4 at *
  have hS0 : Below w.heap.size w W4.drew ∧ W4.drew.cell? ⟨w.heap.size, 0, none⟩ = some (.int .i64 E) ∧ W4.drew.cell? ⟨w.heap.size, 1, none⟩ = some (.int .i64 R) ∧ W4.drew.cell? ⟨w.heap.size, 2, none⟩ = some (.int .i64 D) ∧ W4.drew.cell? ⟨w.heap.size, 3, none⟩ = some (.int .i64 L) ∧ W4.drew.cell? ⟨w3.heap.size, 0, none⟩ = some (.int .i64 x0) ∧ W4.drew.cell? ⟨w3.heap.size, 1, none⟩ = some (.int .i64 x1) ∧ W4.drew.cell? ⟨w3.heap.size, 2, none⟩ = some (.int .i64 x2) ∧ W4.drew.cell? ⟨w3.heap.size, 3, none⟩ = some (.int .i64 x3) ∧ W4.drew.cell? ⟨w4.heap.size, 0, none⟩ = some (.int .i64 x0) ∧ W4.drew.cell? ⟨w4.heap.size, 1, none⟩ = some (.int .i64 x1) ∧ W4.drew.cell? ⟨w4.heap.size, 2, none⟩ = some (.int .i64 x2) ∧ W4.drew.cell? ⟨w4.heap.size, 3, none⟩ = some (.int .i64 x3) := ⟨HB4.out.drew, HX4.out.a0, HX4.out.a1, HX4.out.a2, HX4.out.a3, HY4.out.a0, HY4.out.a1, HY4.out.a2, HY4.out.a3, HZ4.out.a0, HZ4.out.a1, HZ4.out.a2, HZ4.out.a3⟩
  have HS0 := Lib.hid hS0; clear hS0
  go_region_held3 (fun W' => Below w.heap.size w W' ∧ W'.cell? ⟨w.heap.size, 0, none⟩ = some (.int .i64 E) ∧ W'.cell? ⟨w.heap.size, 1, none⟩ = some (.int .i64 R) ∧ W'.cell? ⟨w.heap.size, 2, none⟩ = some (.int .i64 D) ∧ W'.cell? ⟨w.heap.size, 3, none⟩ = some (.int .i64 L) ∧ W'.cell? ⟨w3.heap.size, 0, none⟩ = some (.int .i64 x0) ∧ W'.cell? ⟨w3.heap.size, 1, none⟩ = some (.int .i64 x1) ∧ W'.cell? ⟨w3.heap.size, 2, none⟩ = some (.int .i64 x2) ∧ W'.cell? ⟨w3.heap.size, 3, none⟩ = some (.int .i64 x3) ∧ W'.cell? ⟨w4.heap.size, 0, none⟩ = some (.int .i64 x0) ∧ W'.cell? ⟨w4.heap.size, 1, none⟩ = some (.int .i64 x1) ∧ W'.cell? ⟨w4.heap.size, 2, none⟩ = some (.int .i64 x2) ∧ W'.cell? ⟨w4.heap.size, 3, none⟩ = some (.int .i64 x3)) (first | exact HS0.out | exact keep12 (by assumption) (by assumption)) (first | (go_at_call 22; refine (law23_awake _ (ENV.out.below (by first | assumption | exact And.left (by assumption)))).mono ?_; rintro e w' ⟨rfl, hbw⟩) | (go_at_call 23; refine (HCK.out _).mono ?_; rintro e w' ⟨rfl, hbw⟩) | (go_at_call 24; refine (HRC.out _).mono ?_; rintro e w' ⟨rfl, hbw⟩))
  all_goals
    go_wp2_with fail
    go_ret
    exact ⟨rfl, And.left (by assumption)⟩
end Go.Proofs.YtnjaikomoljmjaaGreatDoor
