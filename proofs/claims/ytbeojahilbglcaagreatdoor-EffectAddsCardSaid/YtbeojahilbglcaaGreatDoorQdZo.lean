/-
  
-/
import Derived.Test.YtbeojahilbglcaaGreatDoorQdYn
import Derived.Test.YtbeojahilbglcaaGreatDoorQdYs
import Derived.Test.YtbeojahilbglcaaGreatDoorQdYf
set_option linter.unusedVariables false
set_option linter.unusedSimpArgs false
set_option maxRecDepth 100000
set_option maxHeartbeats 2000000
namespace Lum
open Go Go.RowKit Go.Shelf
open Go.Lib (decDigits itoa)
end Lum
namespace Go.Proofs.YtbeojahilbglcaaGreatDoor
open Go.RowKit Go.Shelf Lum
open Go.Lib (decDigits itoa)
attribute [local go_sem] bs_get bs_extract_end bs_extract_from bs_extract bs_append
theorem r15_paE (ch a : Int) (w : World) :
    Calls Tryz.prog 63 #[.agg #[.int .i64 ch,.int .i64 a]] w fun e w' => e = .returned (.int .i64 (paE ch a)) ∧ Below w.heap.size w w':=by
  have HP:=Lib.hid (Blk.new w 45 #[.int .i64 ch,.int .i64 a])
  have HB:=Lib.hid ((Below.refl w.heap.size w).alloc (Nat.le_refl _) (.cells #[.int .i64 ch,.int .i64 a] 45))
  obtain ⟨q0,q1,qf0,qf1⟩:=HP.out.c2
  by_cases o0:ch < 1
  · rw [paE_out (by omega)]
    go_enter Tryz.func63,Tryz.ntmps63
    go_wp2_with fail
    go_ret
    exact ⟨rfl,HB.out⟩
  by_cases o1:999 < ch
  · rw [paE_out (by omega)]
    go_enter Tryz.func63,Tryz.ntmps63
    go_wp2_with fail
    go_ret
    exact ⟨rfl,HB.out⟩
  by_cases o2:a < 0
  · rw [paE_out (by omega)]
    go_enter Tryz.func63,Tryz.ntmps63
    go_wp2_with fail
    go_ret
    exact ⟨rfl,HB.out⟩
  by_cases o3:15 ≤ a
  · rw [paE_out (by omega)]
    go_enter Tryz.func63,Tryz.ntmps63
    go_wp2_with fail
    go_ret
    exact ⟨rfl,HB.out⟩
  rw [paE_in (by omega)]
  go_enter Tryz.func63,Tryz.ntmps63
  go_wp2_with fail
  go_ret
  exact ⟨rfl,HB.out⟩
end Go.Proofs.YtbeojahilbglcaaGreatDoor
namespace Lum
open Go Go.RowKit Go.Shelf
open Go.Lib (decDigits itoa)
end Lum
namespace Go.Proofs.YtbeojahilbglcaaGreatDoor
open Go.RowKit Go.Shelf Lum
open Go.Lib (decDigits itoa)
attribute [local go_sem] bs_get bs_extract_end bs_extract_from bs_extract bs_append
end Go.Proofs.YtbeojahilbglcaaGreatDoor
