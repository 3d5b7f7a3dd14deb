/-
  Law 26: Front, Dim, standing; awake.
-/
import Derived.Test.YtkjelfmgnkkijaaGreatDoorQmSd
import Derived.Test.YtkjelfmgnkkijaaGreatDoorQmSb
set_option linter.unusedVariables false
set_option linter.unusedSimpArgs false
namespace Lum
open Go Go.RowKit Go.Shelf
open Go.Lib (decDigits itoa)
theorem blkN1 (w : World) (o : Obj) (t : TypeId) (cs : Array Value) : Blk ((w.alloc o).alloc (.cells cs t)) (w.heap.size + 1) t cs := by
  have h := Blk.new (w.alloc o) t cs
  rwa [World.size_alloc] at h
def frontG : List Gn := [⟨1, 0, 40000⟩, ⟨1, 1, 500⟩]
theorem gns_front {W : World} {g : Nat} {t : TypeId} (h : Blk W g t #[.int .i64 1, .int .i64 0, .int .i64 40000, .int .i64 1, .int .i64 1, .int .i64 500]) : GnsAt W (.slice (some ⟨g, 0, none⟩) 2 2) frontG := by
  refine ⟨_, _, rfl, Nat.le_refl _, fun _ => ⟨g, 0, rfl, h.lt, fun i hi => ?_⟩⟩
  match i, hi with
  | 0, _ => exact ⟨h.c6.1, h.c6.2.1, h.c6.2.2.1⟩
  | 1, _ => exact ⟨h.c6.2.2.2.1, h.c6.2.2.2.2.1, h.c6.2.2.2.2.2.1⟩
theorem belongs_nil {nu : Int} : Belongs (fun k => (fdv [] k).su) ([] : List Fdr).length nu 0 false := ⟨Nat.le_refl _, fun _ h => absurd h (Nat.not_lt_zero _), (fun h => by cases h), fun _ _ _ h => absurd h (Nat.not_lt_zero _), fun _ _ h => absurd h (Nat.not_lt_zero _)⟩
end Lum
namespace Go.Proofs.YtkjelfmgnkkijaaGreatDoor
open Go.RowKit Go.Shelf Lum
open Go.Lib (decDigits itoa)
attribute [local go_sem] bs_get bs_extract_end bs_extract_from bs_extract bs_append

set_option maxRecDepth 100000 in
set_option maxHeartbeats 2000000 in
theorem l26_front (w : World) :
    Calls Tryz.prog 95 #[] w fun e w' => ∃ gv, e = .returned (.agg #[.int .i64 3, .int .i64 0, .bool false, gv]) ∧ GnsAt w' gv frontG ∧ Below w.heap.size w w' := by
  go_enter Tryz.func95, Tryz.ntmps95
  go_wp2
  refine bodyPost_ret_by (v := .agg #[.int .i64 3, .int .i64 0, .bool false, .slice (some ⟨w.heap.size + 1, 0, none⟩) 2 2]) (by simp [results, Tryz.f95, go_sem]) rfl ⟨_, rfl, gns_front (blkN1 w _ 85 _), ((Below.refl _ _).alloc (Nat.le_refl _) _).alloc (by simp) _⟩

end Go.Proofs.YtkjelfmgnkkijaaGreatDoor
