/-
  luminairelaw27: the examples.
-/
import Derived.Test.YtbamcfhmkohbmaaGreatDoorWv4
import Derived.Test.YtbamcfhmkohbmaaGreatDoorWv5
import Derived.Test.YtbamcfhmkohbmaaGreatDoorWv7
import Derived.Test.YtbamcfhmkohbmaaGreatDoorWv9
set_option linter.unusedVariables false
set_option linter.unusedSimpArgs false
namespace Lum
open Go Go.RowKit Go.Shelf
open Go.Lib (decDigits itoa)
def wl27 : List (Int × Int) := [(0, 0), (250, 1000), (750, -1000), (1000, 0)]
def rl27 : List (Int × Int) := [(0, -200), (500, 600), (1000, -200)]
def tl27 : List (Int × Int) := [(0, 3), (10, 4), (20, 5), (1000, 3)]
def sl27 : List (Int × Int) := [(0, 3), (20, 5), (1000, 3)]
theorem wl27_ok : wvE wl27 = 0 := by decide +kernel
theorem rl27_ok : wvE rl27 = 0 := by decide +kernel
theorem tl27_ok : wvE tl27 = 0 := by decide +kernel
theorem tl27_tid : tidF tl27.length 1 tl27 = sl27 := by decide +kernel
theorem rl27_ramp : rampE (-200) 600 500 = 0 ∧ rampL (-200) 600 500 = rl27 := by decide +kernel
theorem wl27_mean : showR (meanW wl27) = [48] := by decide +kernel
theorem rl27_mean : showR (meanW rl27) = [50, 48, 48] := by decide +kernel
def third : Rat := Rat.divInt 100 3
theorem third_show : showR third = [49, 48, 48, 47, 51] := by decide +kernel
theorem third_fits : Fits 400 third := by unfold Fits; decide +kernel
theorem rl27_third : showR (hgtW rl27 third) = [45, 52, 52, 48, 47, 51] := by decide +kernel
theorem pts_cells (W : World) (l : List (Int × Int)) (t : TypeId) (cs : Array Value) (hc : cs = (ptCells l).toArray) (n : Nat) (hn : n = l.length) : PtsAt (W.alloc (.cells cs t)) (.slice (some ⟨W.heap.size, 0, none⟩) n n) l := by
  subst hn hc
  refine ⟨_, _, rfl, fun _ => ⟨W.heap.size, 0, rfl, by simp, fun i hi => ?_⟩⟩
  obtain ⟨e1, e2⟩ := ptCells_at l i hi
  rw [World.cell?_alloc_new, World.cell?_alloc_new, Nat.zero_add]
  exact ⟨by simpa using e1, by simpa using e2⟩
theorem x27_0 : showR ((250 : Int) : Rat) = [50, 53, 48] := by decide +kernel
theorem f27_0 : Fits 400 ((250 : Int) : Rat) := by unfold Fits; decide +kernel
theorem h27_0 : showR (hgtW wl27 ((250 : Int) : Rat)) = [49, 48, 48, 48] := by decide +kernel
theorem x27_1 : showR ((375 : Int) : Rat) = [51, 55, 53] := by decide +kernel
theorem f27_1 : Fits 400 ((375 : Int) : Rat) := by unfold Fits; decide +kernel
theorem h27_1 : showR (hgtW wl27 ((375 : Int) : Rat)) = [53, 48, 48] := by decide +kernel
theorem x27_2 : showR ((500 : Int) : Rat) = [53, 48, 48] := by decide +kernel
theorem f27_2 : Fits 400 ((500 : Int) : Rat) := by unfold Fits; decide +kernel
theorem h27_2 : showR (hgtW wl27 ((500 : Int) : Rat)) = [48] := by decide +kernel
theorem x27_3 : showR ((-500 : Int) : Rat) = [45, 53, 48, 48] := by decide +kernel
theorem f27_3 : Fits 400 ((-500 : Int) : Rat) := by unfold Fits; decide +kernel
theorem h27_3 : showR (hgtW wl27 ((-500 : Int) : Rat)) = [48] := by decide +kernel
theorem x27_4 : showR ((125 : Int) : Rat) = [49, 50, 53] := by decide +kernel
theorem f27_4 : Fits 400 ((125 : Int) : Rat) := by unfold Fits; decide +kernel
theorem h27_4 : showR (hgtW wl27 ((125 : Int) : Rat)) = [53, 48, 48] := by decide +kernel
theorem x27_5 : showR ((5125 : Int) : Rat) = [53, 49, 50, 53] := by decide +kernel
theorem f27_5 : Fits 400 ((5125 : Int) : Rat) := by unfold Fits; decide +kernel
theorem h27_5 : showR (hgtW wl27 ((5125 : Int) : Rat)) = [53, 48, 48] := by decide +kernel
end Lum
namespace Go.Proofs.YtbamcfhmkohbmaaGreatDoor
open Go.RowKit Go.Shelf Lum
open Go.Lib (decDigits itoa)
attribute [local go_sem] bs_get bs_extract_end bs_extract_from bs_extract bs_append

set_option maxRecDepth 100000 in
set_option maxHeartbeats 8000000 in
theorem law27_awake (w : World) (env : Env w) :
    Calls Tryz.prog 15 #[] w fun e w' => e = .returned (.bool (true)) ∧ Below w.heap.size w w' := by
  have ENV := Lib.hid env; clear env
  have a0 := fun W (e : Env W) (h : PtsAt W (.slice (some ⟨w.heap.size, 0, none⟩) 4 4) wl27) => own_at_ok wl27 (.slice (some ⟨w.heap.size, 0, none⟩) 4 4) ((250 : Int) : Rat) W h (by decide) wl27_ok f27_0 e
  rw [x27_0, h27_0] at a0
  have a1 := fun W (e : Env W) (h : PtsAt W (.slice (some ⟨w.heap.size, 0, none⟩) 4 4) wl27) => own_at_ok wl27 (.slice (some ⟨w.heap.size, 0, none⟩) 4 4) ((375 : Int) : Rat) W h (by decide) wl27_ok f27_1 e
  rw [x27_1, h27_1] at a1
  have a2 := fun W (e : Env W) (h : PtsAt W (.slice (some ⟨w.heap.size, 0, none⟩) 4 4) wl27) => own_at_ok wl27 (.slice (some ⟨w.heap.size, 0, none⟩) 4 4) ((500 : Int) : Rat) W h (by decide) wl27_ok f27_2 e
  rw [x27_2, h27_2] at a2
  have a3 := fun W (e : Env W) (h : PtsAt W (.slice (some ⟨w.heap.size, 0, none⟩) 4 4) wl27) => own_at_ok wl27 (.slice (some ⟨w.heap.size, 0, none⟩) 4 4) ((-500 : Int) : Rat) W h (by decide) wl27_ok f27_3 e
  rw [x27_3, h27_3] at a3
  have a4 := fun W (e : Env W) (h : PtsAt W (.slice (some ⟨w.heap.size, 0, none⟩) 4 4) wl27) => own_at_ok wl27 (.slice (some ⟨w.heap.size, 0, none⟩) 4 4) ((125 : Int) : Rat) W h (by decide) wl27_ok f27_4 e
  rw [x27_4, h27_4] at a4
  have a5 := fun W (e : Env W) (h : PtsAt W (.slice (some ⟨w.heap.size, 0, none⟩) 4 4) wl27) => own_at_ok wl27 (.slice (some ⟨w.heap.size, 0, none⟩) 4 4) ((5125 : Int) : Rat) W h (by decide) wl27_ok f27_5 e
  rw [x27_5, h27_5] at a5
  have m1 := fun W (e : Env W) (h : PtsAt W (.slice (some ⟨w.heap.size, 0, none⟩) 4 4) wl27) => own_mean_ok wl27 (.slice (some ⟨w.heap.size, 0, none⟩) 4 4) W h (by decide) wl27_ok e
  rw [wl27_mean] at m1
  have rm := fun W => own_ramp (-200) 600 500 W
  rw [rl27_ramp.1, rl27_ramp.2] at rm
  have m2 := fun W v (e : Env W) (h : PtsAt W v rl27) => own_mean_ok rl27 v W h (by decide) rl27_ok e
  rw [rl27_mean] at m2
  have a6 := fun W v (e : Env W) (h : PtsAt W v rl27) => own_at_ok rl27 v third W h (by decide) rl27_ok third_fits e
  rw [third_show, rl27_third] at a6
  have td := fun W v (h : PtsAt W v tl27) => own_tidy_ok tl27 v W h (by decide) tl27_ok
  rw [tl27_tid] at td
  have sm := fun W va vb (ha : PtsAt W va sl27) (hb : PtsAt W vb sl27) => r27_same sl27 sl27 va vb W ha hb (by decide) (by decide)
  rw [decide_eq_true rfl] at sm
  have A0 := Lib.hid a0; clear a0
  have A1 := Lib.hid a1; clear a1
  have A2 := Lib.hid a2; clear a2
  have A3 := Lib.hid a3; clear a3
  have A4 := Lib.hid a4; clear a4
  have A5 := Lib.hid a5; clear a5
  have A6 := Lib.hid a6; clear a6
  have M1 := Lib.hid m1; clear m1
  have RM := Lib.hid rm; clear rm
  have M2 := Lib.hid m2; clear m2
  have TD := Lib.hid td; clear td
  have SM := Lib.hid sm; clear sm
  have hp := pts_cells w wl27 33 #[.int .i64 0, .int .i64 0, .int .i64 250, .int .i64 1000, .int .i64 750, .int .i64 (-1000), .int .i64 1000, .int .i64 0] rfl 4 rfl
  have ht := Blk.new (w.alloc (.cells #[.int .i64 0, .int .i64 0, .int .i64 250, .int .i64 1000, .int .i64 750, .int .i64 (-1000), .int .i64 1000, .int .i64 0] 33)) 109 #[.string ⟨#[50, 53, 48]⟩, .string ⟨#[49, 48, 48, 48]⟩, .string ⟨#[51, 55, 53]⟩, .string ⟨#[53, 48, 48]⟩, .string ⟨#[53, 48, 48]⟩, .string ⟨#[48]⟩, .string ⟨#[45, 53, 48, 48]⟩, .string ⟨#[48]⟩, .string ⟨#[49, 50, 53]⟩, .string ⟨#[53, 48, 48]⟩, .string ⟨#[53, 49, 50, 53]⟩, .string ⟨#[53, 48, 48]⟩]
  rw [World.size_alloc] at ht
  have hb := ((Below.refl w.heap.size w).alloc (Nat.le_refl _) (.cells #[.int .i64 0, .int .i64 0, .int .i64 250, .int .i64 1000, .int .i64 750, .int .i64 (-1000), .int .i64 1000, .int .i64 0] 33)).alloc (by simp) (.cells #[.string ⟨#[50, 53, 48]⟩, .string ⟨#[49, 48, 48, 48]⟩, .string ⟨#[51, 55, 53]⟩, .string ⟨#[53, 48, 48]⟩, .string ⟨#[53, 48, 48]⟩, .string ⟨#[48]⟩, .string ⟨#[45, 53, 48, 48]⟩, .string ⟨#[48]⟩, .string ⟨#[49, 50, 53]⟩, .string ⟨#[53, 48, 48]⟩, .string ⟨#[53, 49, 50, 53]⟩, .string ⟨#[53, 48, 48]⟩] 109)
  have HP := Lib.hid (PtsAt.below hp ((Below.refl _ _).alloc (Nat.le_refl _) (.cells #[.string ⟨#[50, 53, 48]⟩, .string ⟨#[49, 48, 48, 48]⟩, .string ⟨#[51, 55, 53]⟩, .string ⟨#[53, 48, 48]⟩, .string ⟨#[53, 48, 48]⟩, .string ⟨#[48]⟩, .string ⟨#[45, 53, 48, 48]⟩, .string ⟨#[48]⟩, .string ⟨#[49, 50, 53]⟩, .string ⟨#[53, 48, 48]⟩, .string ⟨#[53, 49, 50, 53]⟩, .string ⟨#[53, 48, 48]⟩] 109)))
  have HT := Lib.hid ht
  have HB := Lib.hid hb
  clear hp ht hb
  obtain ⟨t0, t1, t2, t3, t4, t5, t6, t7, t8, t9, t10, t11, -, -, -, -, -, -, -, -, -, -, -, -⟩ := HT.out.c12
  go_enter Tryz.func15, Tryz.ntmps15
  go_wp2_with fail
  generalize (w.alloc (.cells #[.int .i64 0, .int .i64 0, .int .i64 250, .int .i64 1000, .int .i64 750, .int .i64 (-1000), .int .i64 1000, .int .i64 0] 33)).alloc (.cells #[.string ⟨#[50, 53, 48]⟩, .string ⟨#[49, 48, 48, 48]⟩, .string ⟨#[51, 55, 53]⟩, .string ⟨#[53, 48, 48]⟩, .string ⟨#[53, 48, 48]⟩, .string ⟨#[48]⟩, .string ⟨#[45, 53, 48, 48]⟩, .string ⟨#[48]⟩, .string ⟨#[49, 50, 53]⟩, .string ⟨#[53, 48, 48]⟩, .string ⟨#[53, 49, 50, 53]⟩, .string ⟨#[53, 48, 48]⟩] 109) = W0 at *
  refine wp_loop_rounds 7 ?_
  rw [rounds_succ]
  go_wp2_with ((with_reducible refine ((A0.out _ (ENV.out.below (HB.out.alloc HB.out.size _)) (HP.out.below ((Below.refl _ _).alloc (Nat.le_refl _) _))).mono ?_); rintro e w' ⟨rfl, hb⟩; have hX := (Blk.new _ 109 #[.string ⟨#[50, 53, 48]⟩, .string ⟨#[49, 48, 48, 48]⟩]).keep hb; obtain ⟨-, u1, -, -⟩ := hX.c2; clear hX; replace HP := Lib.hid (PtsAt.below (HP.out.below ((Below.refl _ _).alloc (Nat.le_refl _) _)) hb); replace HT := Lib.hid (Blk.keep (HT.out.alloc _) hb); replace HB := Lib.hid (bch' (HB.out.alloc HB.out.size _) hb); clear hb; clear t0 t1 t2 t3 t4 t5 t6 t7 t8 t9 t10 t11; obtain ⟨t0, t1, t2, t3, t4, t5, t6, t7, t8, t9, t10, t11, -, -, -, -, -, -, -, -, -, -, -, -⟩ := HT.out.c12))
  clear u1
  rw [rounds_succ]
  go_wp2_with ((with_reducible refine ((A1.out _ (ENV.out.below (HB.out.alloc HB.out.size _)) (HP.out.below ((Below.refl _ _).alloc (Nat.le_refl _) _))).mono ?_); rintro e w' ⟨rfl, hb⟩; have hX := (Blk.new _ 109 #[.string ⟨#[51, 55, 53]⟩, .string ⟨#[53, 48, 48]⟩]).keep hb; obtain ⟨-, u1, -, -⟩ := hX.c2; clear hX; replace HP := Lib.hid (PtsAt.below (HP.out.below ((Below.refl _ _).alloc (Nat.le_refl _) _)) hb); replace HT := Lib.hid (Blk.keep (HT.out.alloc _) hb); replace HB := Lib.hid (bch' (HB.out.alloc HB.out.size _) hb); clear hb; clear t0 t1 t2 t3 t4 t5 t6 t7 t8 t9 t10 t11; obtain ⟨t0, t1, t2, t3, t4, t5, t6, t7, t8, t9, t10, t11, -, -, -, -, -, -, -, -, -, -, -, -⟩ := HT.out.c12))
  clear u1
  rw [rounds_succ]
  go_wp2_with ((with_reducible refine ((A2.out _ (ENV.out.below (HB.out.alloc HB.out.size _)) (HP.out.below ((Below.refl _ _).alloc (Nat.le_refl _) _))).mono ?_); rintro e w' ⟨rfl, hb⟩; have hX := (Blk.new _ 109 #[.string ⟨#[53, 48, 48]⟩, .string ⟨#[48]⟩]).keep hb; obtain ⟨-, u1, -, -⟩ := hX.c2; clear hX; replace HP := Lib.hid (PtsAt.below (HP.out.below ((Below.refl _ _).alloc (Nat.le_refl _) _)) hb); replace HT := Lib.hid (Blk.keep (HT.out.alloc _) hb); replace HB := Lib.hid (bch' (HB.out.alloc HB.out.size _) hb); clear hb; clear t0 t1 t2 t3 t4 t5 t6 t7 t8 t9 t10 t11; obtain ⟨t0, t1, t2, t3, t4, t5, t6, t7, t8, t9, t10, t11, -, -, -, -, -, -, -, -, -, -, -, -⟩ := HT.out.c12))
  clear u1
  rw [rounds_succ]
  go_wp2_with ((with_reducible refine ((A3.out _ (ENV.out.below (HB.out.alloc HB.out.size _)) (HP.out.below ((Below.refl _ _).alloc (Nat.le_refl _) _))).mono ?_); rintro e w' ⟨rfl, hb⟩; have hX := (Blk.new _ 109 #[.string ⟨#[45, 53, 48, 48]⟩, .string ⟨#[48]⟩]).keep hb; obtain ⟨-, u1, -, -⟩ := hX.c2; clear hX; replace HP := Lib.hid (PtsAt.below (HP.out.below ((Below.refl _ _).alloc (Nat.le_refl _) _)) hb); replace HT := Lib.hid (Blk.keep (HT.out.alloc _) hb); replace HB := Lib.hid (bch' (HB.out.alloc HB.out.size _) hb); clear hb; clear t0 t1 t2 t3 t4 t5 t6 t7 t8 t9 t10 t11; obtain ⟨t0, t1, t2, t3, t4, t5, t6, t7, t8, t9, t10, t11, -, -, -, -, -, -, -, -, -, -, -, -⟩ := HT.out.c12))
  clear u1
  rw [rounds_succ]
  go_wp2_with ((with_reducible refine ((A4.out _ (ENV.out.below (HB.out.alloc HB.out.size _)) (HP.out.below ((Below.refl _ _).alloc (Nat.le_refl _) _))).mono ?_); rintro e w' ⟨rfl, hb⟩; have hX := (Blk.new _ 109 #[.string ⟨#[49, 50, 53]⟩, .string ⟨#[53, 48, 48]⟩]).keep hb; obtain ⟨-, u1, -, -⟩ := hX.c2; clear hX; replace HP := Lib.hid (PtsAt.below (HP.out.below ((Below.refl _ _).alloc (Nat.le_refl _) _)) hb); replace HT := Lib.hid (Blk.keep (HT.out.alloc _) hb); replace HB := Lib.hid (bch' (HB.out.alloc HB.out.size _) hb); clear hb; clear t0 t1 t2 t3 t4 t5 t6 t7 t8 t9 t10 t11; obtain ⟨t0, t1, t2, t3, t4, t5, t6, t7, t8, t9, t10, t11, -, -, -, -, -, -, -, -, -, -, -, -⟩ := HT.out.c12))
  clear u1
  rw [rounds_succ]
  go_wp2_with ((with_reducible refine ((A5.out _ (ENV.out.below (HB.out.alloc HB.out.size _)) (HP.out.below ((Below.refl _ _).alloc (Nat.le_refl _) _))).mono ?_); rintro e w' ⟨rfl, hb⟩; have hX := (Blk.new _ 109 #[.string ⟨#[53, 49, 50, 53]⟩, .string ⟨#[53, 48, 48]⟩]).keep hb; obtain ⟨-, u1, -, -⟩ := hX.c2; clear hX; replace HP := Lib.hid (PtsAt.below (HP.out.below ((Below.refl _ _).alloc (Nat.le_refl _) _)) hb); replace HT := Lib.hid (Blk.keep (HT.out.alloc _) hb); replace HB := Lib.hid (bch' (HB.out.alloc HB.out.size _) hb); clear hb; clear t0 t1 t2 t3 t4 t5 t6 t7 t8 t9 t10 t11; obtain ⟨t0, t1, t2, t3, t4, t5, t6, t7, t8, t9, t10, t11, -, -, -, -, -, -, -, -, -, -, -, -⟩ := HT.out.c12))
  clear u1
  rw [rounds_succ]
  go_wp2_with (first | (with_reducible refine ((M1.out _ (ENV.out.below HB.out) HP.out).mono ?_); rintro e w' ⟨rfl, hb⟩; replace HB := Lib.hid (bch' HB.out hb); clear hb) | (with_reducible refine ((RM.out _).mono ?_); rintro e w' ⟨v1, rfl, hr1, hb⟩; have HR := Lib.hid hr1; replace HB := Lib.hid (bch' HB.out hb); clear hb hr1) | (with_reducible refine ((M2.out _ _ (ENV.out.below HB.out) HR.out).mono ?_); rintro e w' ⟨rfl, hb⟩; replace HR := Lib.hid (PtsAt.below HR.out hb); replace HB := Lib.hid (bch' HB.out hb); clear hb) | (with_reducible refine ((A6.out _ _ (ENV.out.below HB.out) HR.out).mono ?_); rintro e w' ⟨rfl, hb⟩; replace HB := Lib.hid (bch' HB.out hb); clear hb) | (with_reducible refine ((TD.out _ _ (pts_cells _ tl27 33 #[.int .i64 0, .int .i64 3, .int .i64 10, .int .i64 4, .int .i64 20, .int .i64 5, .int .i64 1000, .int .i64 3] rfl 4 rfl)).mono ?_); rintro e w' ⟨v2, rfl, ht2, hb⟩; have HT2 := Lib.hid ht2; replace HB := Lib.hid (bch' (HB.out.alloc HB.out.size _) hb); clear hb ht2) | (with_reducible refine ((SM.out _ _ _ (PtsAt.below HT2.out ((Below.refl _ _).alloc (Nat.le_refl _) _)) (pts_cells _ sl27 33 #[.int .i64 0, .int .i64 3, .int .i64 20, .int .i64 5, .int .i64 1000, .int .i64 3] rfl 3 rfl)).mono ?_); rintro e w' ⟨rfl, hb⟩; replace HB := Lib.hid (bch' (HB.out.alloc HB.out.size _) hb); clear hb))
  go_ret
  exact ⟨rfl, HB.out⟩
end Go.Proofs.YtbamcfhmkohbmaaGreatDoor
