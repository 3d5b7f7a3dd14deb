/-
  The law RatioMakes: the walk.
-/
import Derived.Test.YtnjaikomoljmjaaGreatDoorLr1
set_option linter.unusedVariables false
set_option linter.unusedSimpArgs false
namespace Lum
open Go Go.RowKit Go.Shelf
open Go.Lib (decDigits itoa)
theorem keepR1 {w W W' : World} {B o : Nat} {v : Value} (h : Below w.heap.size w W ∧ W.cell? ⟨B, o, none⟩ = some v) (hb : Below W.heap.size W W') : Below w.heap.size w W' ∧ W'.cell? ⟨B, o, none⟩ = some v :=
  ⟨bch' h.1 hb, keepK h.2 hb⟩
end Lum
namespace Go.Proofs.YtnjaikomoljmjaaGreatDoor
open Go.RowKit Go.Shelf Lum
open Go.Lib (decDigits itoa)
attribute [local go_sem] bs_get bs_extract_end bs_extract_from bs_extract bs_append

set_option maxRecDepth 100000 in
set_option maxHeartbeats 4000000 in
theorem law_makes (a b : Txt) (x y : Int) (w : World) (ha : a.length ≤ 9223372036854775807) (hb : b.length ≤ 9223372036854775807) (x0 : -9223372036854775808 ≤ x) (x1 : x ≤ 9223372036854775807) (y0 : -9223372036854775808 ≤ y) (y1 : y ≤ 9223372036854775807) (env : Env w) :
    Calls Tryz.prog 16 #[.string ⟨(a).toArray⟩, .string ⟨(b).toArray⟩, .agg #[.int .i64 x, .int .i64 y]] w fun e w' => e = .returned (.bool (true)) ∧ Below w.heap.size w w' := by
  have HB := Lib.hid ((Below.refl w.heap.size w).alloc (Nat.le_refl _) (.cells #[.int .i64 x, .int .i64 y] 82))
  have c0 : (w.alloc (.cells #[.int .i64 x, .int .i64 y] 82)).cell? ⟨w.heap.size, 0, none⟩ = some (.int .i64 x) := by rw [World.cell?_alloc_new]; rfl
  have c1 : (w.alloc (.cells #[.int .i64 x, .int .i64 y] 82)).cell? ⟨w.heap.size, 1, none⟩ = some (.int .i64 y) := by rw [World.cell?_alloc_new]; rfl
  have haw := fun W (e : Env W) => law02_awake W e
  by_cases hl : 200 < a.length
  · have ENV := Lib.hid env; clear env
    have HAW := Lib.hid haw; clear haw
    go_enter Tryz.func16, Tryz.ntmps16
    go_wp2_with fail
    generalize w.alloc (.cells #[.int .i64 x, .int .i64 y] 82) = W0 at *
    go_wp2_with (first | (with_reducible refine ((HAW.out _ (ENV.out.below HB.out)).mono ?_); rintro e w' ⟨rfl, hb⟩; replace c0 := keepK c0 hb; replace c1 := keepK c1 hb; replace HB := Lib.hid (bch' HB.out hb); clear hb))
    go_ret
    exact ⟨rfl, HB.out⟩
  by_cases hl2 : 200 < b.length
  · have ENV := Lib.hid env; clear env
    have HAW := Lib.hid haw; clear haw
    go_enter Tryz.func16, Tryz.ntmps16
    go_wp2_with fail
    generalize w.alloc (.cells #[.int .i64 x, .int .i64 y] 82) = W0 at *
    go_wp2_with (first | (with_reducible refine ((HAW.out _ (ENV.out.below HB.out)).mono ?_); rintro e w' ⟨rfl, hb⟩; replace c0 := keepK c0 hb; replace c1 := keepK c1 hb; replace HB := Lib.hid (bch' HB.out hb); clear hb))
    go_ret
    exact ⟨rfl, HB.out⟩
  have la : a.length ≤ 200 := by omega
  have lb : b.length ≤ 200 := by omega
  clear hl hl2 ha hb
  have hx := fun W (e : Env W) => own_rof a b W e (by omega) (by omega)
  have gx := fun W => r2_of a b W (by omega) (by omega)
  generalize ofT a b = v at *
  obtain ⟨n, m⟩ := v
  dsimp only at hx gx
  have hp := fun W (e : Env W) => own_part x y W x0 x1 y0 y1 e
  have gp := fun W => r2_part x y W x0 x1 y0 y1
  generalize partT x y = v at *
  obtain ⟨np, mp⟩ := v
  dsimp only at hp gp
  have hw := fun W (e : Env W) => own_whole x W x0 x1 e
  have gw := fun W => r2_whole x W x0 x1
  generalize itoa x = tx at *
  clear x0 x1 y0 y1
  have HAW := Lib.hid haw; clear haw
  have HX := Lib.hid hx; clear hx
  have GX := Lib.hid gx; clear gx
  have HP := Lib.hid hp; clear hp
  have GP := Lib.hid gp; clear gp
  have HW := Lib.hid hw; clear hw
  have GW := Lib.hid gw; clear gw
  have ENV := Lib.hid env; clear env
  go_enter Tryz.func16, Tryz.ntmps16
  go_wp2_with fail
  generalize w.alloc (.cells #[.int .i64 x, .int .i64 y] 82) = W0 at *
  go_wp2_with (first | (with_reducible refine ((HX.out _ (ENV.out.below HB.out)).mono ?_); rintro e w' ⟨rfl, hb⟩; replace c0 := keepK c0 hb; replace c1 := keepK c1 hb; replace HB := Lib.hid (bch' HB.out hb); clear hb) | (with_reducible refine ((GX.out _).mono ?_); rintro e w' ⟨rfl, hb⟩; replace c0 := keepK c0 hb; replace c1 := keepK c1 hb; replace HB := Lib.hid (bch' HB.out hb); clear hb) | (with_reducible refine ((HP.out _ (ENV.out.below HB.out)).mono ?_); rintro e w' ⟨rfl, hb⟩; replace c0 := keepK c0 hb; replace c1 := keepK c1 hb; replace HB := Lib.hid (bch' HB.out hb); clear hb))
  refine ((GP.out _).mono ?_); rintro e w4 ⟨rfl, hb⟩
  replace c0 := keepK c0 hb; replace HB := Lib.hid (bch' HB.out hb); clear hb
  go_wp2_with fail
  have hS0 : Below w.heap.size w w4.drew ∧ w4.drew.cell? ⟨w.heap.size, 0, none⟩ = some (.int .i64 x) := ⟨HB.out.drew, c0⟩
  have HS0 := Lib.hid hS0; clear hS0
  go_region_held3 (fun W' => Below w.heap.size w W' ∧ W'.cell? ⟨w.heap.size, 0, none⟩ = some (.int .i64 x)) (first | assumption | exact HS0.out | exact keepR1 (by assumption) (by assumption)) (first | (go_at_call 47; refine (HAW.out _ (ENV.out.below (by first | assumption | exact And.left (by assumption)))).mono ?_; rintro e w' ⟨rfl, hbw⟩) | (go_at_call 78; refine (HW.out _ (ENV.out.below (by first | assumption | exact And.left (by assumption)))).mono ?_; rintro e w' ⟨rfl, hbw⟩) | (go_at_call 32; refine (GW.out _).mono ?_; rintro e w' ⟨rfl, hbw⟩))
  all_goals
    go_wp2_with fail
    go_ret
    exact ⟨rfl, And.left (by assumption)⟩
end Go.Proofs.YtnjaikomoljmjaaGreatDoor
