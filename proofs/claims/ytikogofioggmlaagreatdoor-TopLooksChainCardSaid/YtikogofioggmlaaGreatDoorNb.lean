/-
  caseLooks.
-/
import Derived.Test.YtikogofioggmlaaGreatDoorNa
set_option linter.unusedVariables false
set_option linter.unusedSimpArgs false
namespace Go.Proofs.YtikogofioggmlaaGreatDoor
open Go.RowKit Go.Shelf Lum
open Go.Lib (decDigits itoa)
attribute [local go_sem] bs_get bs_extract_end bs_extract_from bs_extract bs_append

theorem va_eql (W : World) (a b : Int) : (binOp .eql 41 (.agg #[.int .i64 a, .int .i64 b]) (.agg #[.int .i64 a, .int .i64 b])).run Tryz.prog W = .ok (.bool true) W := by
  have h1 : Tryz.prog.underlying 41 = some (.struct (Tryz.prog.fieldsOf 41)) := by kernel_rfl
  have h2 : Tryz.prog.stoodInHeld 41 = false := by kernel_rfl
  rw [run_eql_struct, run_equalIn_agg W 9999 _ _ _ h1 h2]
  have hf := TypeDesc.struct.inj (Option.some.inj (h1.symm.trans Tryz.underlying41))
  rw [hf]
  simp [Op.eqFields, go_sem, Tryz.underlying3]
set_option maxRecDepth 100000 in
set_option maxHeartbeats 4000000 in
theorem case_looks (w : World) (env : Env w) :
    Calls Tryz.prog 5 #[] w fun e w' => e = .returned (.bool true) ∧ Below w.heap.size w w' := by
  have HB := Lib.hid (Below.refl w.heap.size w)
  have ENV := Lib.hid env; clear env
  go_enter Tryz.func5, Tryz.ntmps5
  go_wp2_with fail
  with_reducible refine ((l18_four _).mono ?_)
  rintro e w1 ⟨p, L, c, rfl, hL, hC, hb⟩
  have hh := four_ix hL
  have hR : LsR 1 0 (L.map CuL.c) := by rw [hL]; exact fourC_ok
  replace HB := Lib.hid (bch' HB.out hb); clear hb
  have hlk := own_Look 1 0 L p c [50] 1 w1 hC hR ⟨by decide, by decide, by decide, by decide, by decide, by decide, by decide, by decide, by decide⟩ (by exact hh.2.1) (by have := hh.1; omega) (ENV.out.below HB.out)
  rw [hL, four_look2, show look2.length = 3 from rfl] at hlk
  have HLK := Lib.hid hlk; clear hlk
  clear hh hR hC hL
  go_wp2_with fail
  with_reducible refine (HLK.out.mono ?_)
  rintro e w2 ⟨q1, d1, rfl, ho, hb⟩
  clear HLK
  have HO1 := Lib.hid ho; clear ho
  replace HB := Lib.hid (bch' HB.out hb); clear hb
  go_wp2_with fail
  with_reducible refine ((l18_four _).mono ?_)
  rintro e w3 ⟨p, L, c, rfl, hL, hC, hb⟩
  have hh := four_ix hL
  have hR : LsR 1 0 (L.map CuL.c) := by rw [hL]; exact fourC_ok
  replace HO1 := Lib.hid (OwnR.keep HO1.out hb); replace HB := Lib.hid (bch' HB.out hb); clear hb
  have hlk := own_Look 1 0 L p c [51] 2 w3 hC hR ⟨by decide, by decide, by decide, by decide, by decide, by decide, by decide, by decide, by decide⟩ (by exact hh.2.2) (by have := hh.1; omega) (ENV.out.below HB.out)
  rw [hL, four_look3, show look3.length = 3 from rfl] at hlk
  have HLK := Lib.hid hlk; clear hlk
  clear hh hR hC hL
  go_wp2_with fail
  with_reducible refine (HLK.out.mono ?_)
  rintro e w4 ⟨q2, d2, rfl, ho, hb⟩
  clear HLK
  have HO2 := Lib.hid ho; clear ho
  replace HO1 := Lib.hid (OwnR.keep HO1.out hb); replace HB := Lib.hid (bch' HB.out hb); clear hb
  obtain ⟨b1, hq1, hb1, hc1⟩ := HO1.out.at_ encEn_len (by decide)
  subst hq1
  obtain ⟨b2, hq2, hb2, hc2⟩ := HO2.out.at_ encEn_len (by decide)
  subst hq2
  have C0 : Hid (w4.cell? ⟨b1, 6, none⟩ = some (.int .i64 0)) := Lib.hid (hc1 1 (by decide) 2 _ rfl)
  have C1 : Hid (w4.cell? ⟨b1, 7, none⟩ = some (.int .i64 7)) := Lib.hid (hc1 1 (by decide) 3 _ rfl)
  have C2 : Hid (w4.cell? ⟨b2, 2, none⟩ = some (.int .i64 (-1))) := Lib.hid (hc2 0 (by decide) 2 _ rfl)
  have C3 : Hid (w4.cell? ⟨b2, 3, none⟩ = some (.int .i64 0)) := Lib.hid (hc2 0 (by decide) 3 _ rfl)
  have C4 : Hid (w4.cell? ⟨b2, 6, none⟩ = some (.int .i64 0)) := Lib.hid (hc2 1 (by decide) 2 _ rfl)
  have C5 : Hid (w4.cell? ⟨b2, 7, none⟩ = some (.int .i64 9)) := Lib.hid (hc2 1 (by decide) 3 _ rfl)
  have HQ1 := Lib.hid hb1; have HQ2 := Lib.hid hb2
  clear hb1 hb2 hc1 hc2 HO1 HO2
  have hv1 := fun W => va_eql W 0 7; have hv2 := fun W => va_eql W (-1) 0; have hv3 := fun W => va_eql W 0 9
  have HA7 := Lib.hid (fun W => r15_at 7 W); have HA9 := Lib.hid (fun W => r15_at 9 W); have HHO := Lib.hid (fun W => r15_home W)
  go_wp2_with fail
  have fc0 := fun p : BelowOf _ => (p.h.cell (p := ⟨b1, 6, none⟩) HQ1.out).trans C0.out
  have fc1 := fun p : BelowOf _ => (p.h.cell (p := ⟨b1, 7, none⟩) HQ1.out).trans C1.out
  have fc2 := fun p : BelowOf _ => (p.h.cell (p := ⟨b2, 2, none⟩) HQ2.out).trans C2.out
  have fc3 := fun p : BelowOf _ => (p.h.cell (p := ⟨b2, 3, none⟩) HQ2.out).trans C3.out
  have fc4 := fun p : BelowOf _ => (p.h.cell (p := ⟨b2, 6, none⟩) HQ2.out).trans C4.out
  have fc5 := fun p : BelowOf _ => (p.h.cell (p := ⟨b2, 7, none⟩) HQ2.out).trans C5.out
  have z1 := fun p : BelowOf _ => Nat.lt_of_lt_of_le HQ1.out p.h.size
  have z2 := fun p : BelowOf _ => Nat.lt_of_lt_of_le HQ2.out p.h.size
  refine wp_region_WQ (by kernel_rfl) (by kernel_rfl) ?_
  repeat (refine WQ.step (fun K hK => ?_); go_simp; first | (refine hK.out _ ?_; clear hK K) | (apply Exists.intro; refine ⟨fun _ => ?_, hK.out _ ?_⟩; (first | rfl | (go_at_call 15; exact calls_below_of _ (HA7.out _)) | (go_at_call 15; exact calls_below_of _ (HA9.out _)) | (go_at_call 16; exact calls_below_of _ (HHO.out _))); clear hK K))
  refine WQ.nil ?_
  intro _ hw'
  obtain ⟨⟨wq, hbq⟩, hw2⟩ := hw'
  subst hw2
  replace HB := Lib.hid (bch' HB.out hbq)
  clear fc0 fc1 fc2 fc3 fc4 fc5 z1 z2
  go_wp2_with fail
  go_ret
  exact ⟨rfl, HB.out⟩
end Go.Proofs.YtikogofioggmlaaGreatDoor
