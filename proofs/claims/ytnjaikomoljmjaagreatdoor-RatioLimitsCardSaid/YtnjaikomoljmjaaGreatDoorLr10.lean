/-
  The law RatioLimits: the walk.
-/
import Derived.Test.YtnjaikomoljmjaaGreatDoorLr1
set_option linter.unusedVariables false
set_option linter.unusedSimpArgs false
namespace Go.Proofs.YtnjaikomoljmjaaGreatDoor
open Go.RowKit Go.Shelf Lum
open Go.Lib (decDigits itoa)
attribute [local go_sem] bs_get bs_extract_end bs_extract_from bs_extract bs_append

set_option maxRecDepth 100000 in
set_option maxHeartbeats 4000000 in
theorem law02_long (d q : Int) (w : World) (d0 : 0 ≤ d) (d1 : d ≤ 65535) (q0 : 0 ≤ q) (q1 : q ≤ 65535) :
    Calls Tryz.prog 62 #[.int .u16 d, .int .u16 q] w fun e w' => (∃ l : Txt, l.length ≤ 5000 ∧ e = .returned (.string ⟨l.toArray⟩)) ∧ Below w.heap.size w w' := by
  obtain ⟨c, hc⟩ : ∃ c : Nat, d % 4100 = (c : Int) := ⟨(d % 4100).toNat, by omega⟩
  have hc2 : c < 4100 := by omega
  have hr := fun W => sh_repeat ⟨#[48]⟩ c W (by omega) (by show 1 * c ≤ _; omega)
  have hl : (Lib.repeatL [48] c).length = c := by rw [Lib.repeatL_length]; simp
  have HR := Lib.hid hr; clear hr
  rcases (show q % 5 = 0 ∨ q % 5 = 1 ∨ q % 5 = 2 ∨ q % 5 = 3 ∨ q % 5 = 4 by omega) with hq | hq | hq | hq | hq
  all_goals
    go_enter Tryz.func62, Tryz.ntmps62
    go_wp2_with fail
    rw [show (2 + (c : Int) - 2) = (c : Int) by omega]
    refine ((HR.out _).mono ?_); rintro e w1 ⟨rfl, hb1⟩
    have hcell : ∀ j v, (#[.string ⟨#[50]⟩, .string ⟨#[52]⟩, .string ⟨#[53]⟩, .string ⟨#[56]⟩, .string ⟨#[50, 53]⟩] : Array Value)[j]? = some v → (w1.alloc (.cells #[.string ⟨#[50]⟩, .string ⟨#[52]⟩, .string ⟨#[53]⟩, .string ⟨#[56]⟩, .string ⟨#[50, 53]⟩] 9)).cell? ⟨w1.heap.size, j, none⟩ = some v := fun j v h => by rw [World.cell?_alloc_new]; exact h
    have c0 := hcell 0 _ rfl
    have c1 := hcell 1 _ rfl
    have c2 := hcell 2 _ rfl
    have c3 := hcell 3 _ rfl
    have c4 := hcell 4 _ rfl
    have HBA := Lib.hid (bch' hb1 ((Below.refl w1.heap.size w1).alloc (Nat.le_refl _) (.cells #[.string ⟨#[50]⟩, .string ⟨#[52]⟩, .string ⟨#[53]⟩, .string ⟨#[56]⟩, .string ⟨#[50, 53]⟩] 9)))
    have HBN := Lib.hid hb1
    clear hcell hb1
    generalize Lib.repeatL _ c = r at *
    go_wp2
    go_ret
    exact ⟨⟨_, by simp; omega, rfl⟩, by first | exact HBN.out | exact HBA.out⟩
set_option maxRecDepth 100000 in
set_option maxHeartbeats 4000000 in
theorem law_limits (x y z : Int) (w : World) (x0 : 0 ≤ x) (x1 : x ≤ 65535) (y0 : 0 ≤ y) (y1 : y ≤ 65535) (z0 : 0 ≤ z) (z1 : z ≤ 65535) (env : Env w) :
    Calls Tryz.prog 10 #[.int .u16 x, .int .u16 y, .int .u16 z] w fun e w' => e = .returned (.bool (true)) ∧ Below w.heap.size w w' := by
  have hz : IntKind.u16.wrap (z.tdiv 5) = z / 5 := by rw [Int.tdiv_eq_ediv_of_nonneg z0]; exact IntWalk.u16_in _ ⟨by omega, by omega⟩
  have haw := fun W (e : Env W) => law02_awake W e
  have g1 := fun W => law02_long x z W x0 x1 z0 z1
  have g2 := fun W => law02_long y (z / 5) W y0 y1 (by omega) (by omega)
  have HAW := Lib.hid haw; clear haw
  have G1 := Lib.hid g1; clear g1
  have G2 := Lib.hid g2; clear g2
  have ENV := Lib.hid env; clear env
  have HB := Lib.hid (Below.refl w.heap.size w)
  go_enter Tryz.func10, Tryz.ntmps10
  go_wp2_with fail
  refine ((G1.out _).mono ?_); rintro e w1 ⟨⟨a, la, rfl⟩, hb⟩; replace HB := Lib.hid (bch' HB.out hb); clear hb
  go_wp2_with fail
  refine ((G2.out _).mono ?_); rintro e w2 ⟨⟨b, lb, rfl⟩, hb⟩; replace HB := Lib.hid (bch' HB.out hb); clear hb
  have k1 := fun W (e : Env W) => own_rcheck a W (by omega) e
  have k2 := fun W => r2_check a W (by omega)
  generalize ratCheck a = m at *
  have m1 := fun W (e : Env W) => own_rmul a b W e (by omega) (by omega)
  have m2 := fun W => r2_mul a b W (by omega) (by omega)
  generalize rTwo a b qMul = v at *
  obtain ⟨s, p⟩ := v
  dsimp only at m1 m2
  have a1 := fun W (e : Env W) => own_radd a b W e (by omega) (by omega)
  have a2 := fun W => r2_add a b W (by omega) (by omega)
  generalize rTwo a b qAdd = v at *
  obtain ⟨t, q⟩ := v
  dsimp only at a1 a2
  clear la lb
  have K1 := Lib.hid k1; clear k1
  have K2 := Lib.hid k2; clear k2
  have M1 := Lib.hid m1; clear m1
  have M2 := Lib.hid m2; clear m2
  have A1 := Lib.hid a1; clear a1
  have A2 := Lib.hid a2; clear a2
  go_wp2_with (first | (with_reducible refine ((K1.out _ (ENV.out.below HB.out)).mono ?_); rintro e w' ⟨rfl, hb⟩; replace HB := Lib.hid (bch' HB.out hb); clear hb) | (with_reducible refine ((K2.out _).mono ?_); rintro e w' ⟨rfl, hb⟩; replace HB := Lib.hid (bch' HB.out hb); clear hb) | (with_reducible refine ((M1.out _ (ENV.out.below HB.out)).mono ?_); rintro e w' ⟨rfl, hb⟩; replace HB := Lib.hid (bch' HB.out hb); clear hb) | (with_reducible refine ((M2.out _).mono ?_); rintro e w' ⟨rfl, hb⟩; replace HB := Lib.hid (bch' HB.out hb); clear hb) | (with_reducible refine ((A1.out _ (ENV.out.below HB.out)).mono ?_); rintro e w' ⟨rfl, hb⟩; replace HB := Lib.hid (bch' HB.out hb); clear hb) | (with_reducible refine ((A2.out _).mono ?_); rintro e w' ⟨rfl, hb⟩; replace HB := Lib.hid (bch' HB.out hb); clear hb) | (with_reducible refine ((HAW.out _ (ENV.out.below HB.out)).mono ?_); rintro e w' ⟨rfl, hb⟩; replace HB := Lib.hid (bch' HB.out hb); clear hb))
  go_ret
  exact ⟨rfl, HB.out⟩
end Go.Proofs.YtnjaikomoljmjaaGreatDoor
