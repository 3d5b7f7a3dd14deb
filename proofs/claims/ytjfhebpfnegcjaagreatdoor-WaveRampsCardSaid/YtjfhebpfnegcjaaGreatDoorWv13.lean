/-
  The law WaveRamps: the walk.
-/
import Derived.Test.YtjfhebpfnegcjaaGreatDoorWv12
set_option linter.unusedVariables false
set_option linter.unusedSimpArgs false
namespace Go.Proofs.YtjfhebpfnegcjaaGreatDoor
open Go.RowKit Go.Shelf Lum
open Go.Lib (decDigits itoa)
attribute [local go_sem] bs_get bs_extract_end bs_extract_from bs_extract bs_append

set_option maxRecDepth 100000 in
set_option maxHeartbeats 4000000 in
theorem law_ramps (low top turn : Int) (w : World) (env : Env w) :
    Calls Tryz.prog 3 #[.int .i64 low, .int .i64 top, .int .i64 turn] w fun e w' => e = .returned (.bool (true)) ∧ Below w.heap.size w w' := by
  have ENV := Lib.hid env; clear env
  have HB := Lib.hid (Below.refl w.heap.size w)
  have haw := fun W (e : Env W) => law27_awake W e
  have ho := fun W => own_ramp low top turn W
  have hr := fun W => r27_ramp low top turn W
  have hs := fun W va vb (ha : PtsAt W va (rampL low top turn)) (hb : PtsAt W vb (rampL low top turn)) => r27_same (rampL low top turn) (rampL low top turn) va vb W ha hb (by unfold rampL; split <;> simp) (by unfold rampL; split <;> simp)
  rw [decide_eq_true rfl] at hs
  generalize rampL low top turn = L at *
  generalize rampE low top turn = m at *
  have HAW := Lib.hid haw; clear haw
  have HO := Lib.hid ho; clear ho
  have HR := Lib.hid hr; clear hr
  have HS := Lib.hid hs; clear hs
  go_enter Tryz.func3, Tryz.ntmps3
  go_wp2_with (first | (with_reducible refine ((HO.out _).mono ?_); rintro e w' ⟨v1, rfl, h1, hb⟩; have P1 := Lib.hid h1; replace HB := Lib.hid (bch' HB.out hb); clear hb h1) | (with_reducible refine ((HR.out _).mono ?_); rintro e w' ⟨v2, rfl, h2, hb⟩; have P2 := Lib.hid h2; replace P1 := Lib.hid (PtsAt.below P1.out hb); replace HB := Lib.hid (bch' HB.out hb); clear hb h2) | (with_reducible refine ((HAW.out _ (ENV.out.below HB.out)).mono ?_); rintro e w' ⟨rfl, hb⟩; replace P1 := Lib.hid (PtsAt.below P1.out hb); replace P2 := Lib.hid (PtsAt.below P2.out hb); replace HB := Lib.hid (bch' HB.out hb); clear hb) | (with_reducible refine ((HS.out _ _ _ P1.out P2.out).mono ?_); rintro e w' ⟨rfl, hb⟩; replace HB := Lib.hid (bch' HB.out hb); clear hb))
  go_ret
  exact ⟨rfl, HB.out⟩
end Go.Proofs.YtjfhebpfnegcjaaGreatDoor
