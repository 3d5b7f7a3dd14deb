/-
  Submasters: compare, param of the program.
-/
import Derived.Test.YtjagoloohhjjeaaGreatDoorSw
import Derived.Test.YtjagoloohhjjeaaGreatDoorQb
set_option linter.unusedVariables false
set_option linter.unusedSimpArgs false
namespace Go.Proofs.YtjagoloohhjjeaaGreatDoor
open Go.RowKit Go.Shelf Lum
open Go.Lib (decDigits itoa)
attribute [local go_sem] bs_get bs_extract_end bs_extract_from bs_extract bs_append

set_option maxRecDepth 100000 in
set_option maxHeartbeats 2000000 in
theorem own_scompare (c a d b : Int) (w : World) (hc : (0 ≤ c ∧ c ≤ 1000000) ∧ (0 ≤ d ∧ d ≤ 1000000)) (ha : (0 ≤ a ∧ a ≤ 1000000) ∧ (0 ≤ b ∧ b ≤ 1000000)) :
    Calls Tryz.prog 132 #[.agg #[.int .i64 c, .int .i64 a], .agg #[.int .i64 d, .int .i64 b]] w fun e w' => e = .returned (.int .i64 (cmpP c a d b)) ∧ Below w.heap.size w w' := by
  have hb := ((Below.refl w.heap.size w).alloc (Nat.le_refl _) (.cells #[.int .i64 c, .int .i64 a] 133)).alloc (by simp) (.cells #[.int .i64 d, .int .i64 b] 133)
  have HB := Lib.hid hb; clear hb
  have e1 : IntKind.i64.wrap (c - d) = c - d := IntWalk.i64_in _ (by omega)
  have e2 : IntKind.i64.wrap (a - b) = a - b := IntWalk.i64_in _ (by omega)
  unfold cmpP
  by_cases h : c = d
  · rw [if_neg (by simpa using h)]
    have hn : ((c : Int) != d) = false := by simpa using h
    clear hc ha h
    go_enter Tryz.func132, Tryz.ntmps132
    go_wp2_with fail
    go_ret
    exact ⟨rfl, HB.out⟩
  · rw [if_pos h]
    have hn : ((c : Int) != d) = true := by simpa using h
    clear hc ha h
    go_enter Tryz.func132, Tryz.ntmps132
    go_wp2_with fail
    go_ret
    exact ⟨rfl, HB.out⟩

set_option maxRecDepth 100000 in
set_option maxHeartbeats 2000000 in
theorem own_sparam (ch at_ : Int) (w : World) :
    Calls Tryz.prog 91 #[.agg #[.int .i64 ch, .int .i64 at_]] w fun e w' => e = .returned (.int .i64 (parE ch at_)) ∧ Below w.heap.size w w' := by
  have HK := Lib.hid (Blk.new w 133 #[.int .i64 ch, .int .i64 at_])
  have HB := Lib.hid ((Below.refl w.heap.size w).alloc (Nat.le_refl _) (.cells #[.int .i64 ch, .int .i64 at_] 133))
  obtain ⟨k0, k1, kf0, kf1⟩ := HK.out.c2
  by_cases o0 : ch < 1
  · rw [parE_out (by omega)]
    go_enter Tryz.func91, Tryz.ntmps91
    go_wp2_with fail
    go_ret
    exact ⟨rfl, HB.out⟩
  by_cases o1 : 999 < ch
  · rw [parE_out (by omega)]
    go_enter Tryz.func91, Tryz.ntmps91
    go_wp2_with fail
    go_ret
    exact ⟨rfl, HB.out⟩
  by_cases o2 : at_ < 0
  · rw [parE_out (by omega)]
    go_enter Tryz.func91, Tryz.ntmps91
    go_wp2_with fail
    go_ret
    exact ⟨rfl, HB.out⟩
  by_cases o3 : 15 ≤ at_
  · rw [parE_out (by omega)]
    go_enter Tryz.func91, Tryz.ntmps91
    go_wp2_with fail
    go_ret
    exact ⟨rfl, HB.out⟩
  rw [parE_in (by omega)]
  go_enter Tryz.func91, Tryz.ntmps91
  go_wp2_with fail
  go_ret
  exact ⟨rfl, HB.out⟩
end Go.Proofs.YtjagoloohhjjeaaGreatDoor
