/-
  The law's list of four: its closure.
-/
import Derived.Test.YtikogofioggmlaaGreatDoorLw
set_option linter.unusedVariables false
set_option linter.unusedSimpArgs false
namespace Go.Proofs.YtikogofioggmlaaGreatDoor
open Go.RowKit Go.Shelf Lum
open Go.Lib (decDigits itoa)
attribute [local go_sem] bs_get bs_extract_end bs_extract_from bs_extract bs_append

theorem info_tm : (Tryz.prog.info? 91).map (fun i => (i.zero, i.size, i.bytes)) = some (some (.agg #[.int .i64 0, .int .i64 0, .int .i64 0, .int .i64 0, .int .i64 0, .int .i64 0]), 6, 48) := by kernel_rfl
set_option maxRecDepth 100000 in
theorem make_one (W : World) : (Instr.makeSlice 30 (.int .i64 1) (.int .i64 1)).run Tryz.prog W = .ok (.slice (some ⟨W.heap.size, 0, none⟩) 1 1) (W.alloc (.cells #[.int .i64 0, .int .i64 0, .int .i64 0, .int .i64 0, .int .i64 0, .int .i64 0] 91)) := by
  obtain ⟨i0, hi, hz0, hz1, hz2⟩ := info_parts info_tm
  have h := run_makeSlice (w := W) 30 91 i0 _ Tryz.underlying30 hi hz0 .i64 .i64 1 1 (by decide) (by decide) (by rw [hz1]; decide) (by rw [hz2]; decide) (by decide)
  rw [hz1] at h
  exact h.trans (by congr 2; first | kernel_rfl | rfl)

set_option maxRecDepth 100000 in
set_option maxHeartbeats 4000000 in
theorem l18_cue (s : Txt) (b : Bool) (pm : Option Addr) (n cm : Nat) (w : World) :
    Calls Tryz.prog 23 #[.string ⟨s.toArray⟩, .bool b, .slice pm n cm] w fun e w' => e = .returned (.agg #[.string ⟨s.toArray⟩, .string ⟨#[]⟩, .slice pm n cm, .slice (some ⟨w.heap.size + 1, 0, none⟩) 1 1, .bool b, .bool false, .int .i64 (-1), .string ⟨#[]⟩, .int .i64 0]) ∧ Blk w' (w.heap.size + 1) 91 #[.int .i64 0, .int .i64 0, .int .i64 0, .int .i64 0, .int .i64 0, .int .i64 0] ∧ Below w.heap.size w w' := by
  have hal := ((Below.refl w.heap.size w).alloc (Nat.le_refl _) (.cells #[.string ⟨#[]⟩, .string ⟨#[]⟩, .slice none 0 0, .slice none 0 0, .bool false, .bool false, .int .i64 0, .string ⟨#[]⟩, .int .i64 0] 32)).alloc (by simp) (.cells #[.int .i64 0, .int .i64 0, .int .i64 0, .int .i64 0, .int .i64 0, .int .i64 0] 91)
  have HB := Lib.hid hal; clear hal
  have HV := Lib.hid ((Blk.new w 32 #[.string ⟨#[]⟩, .string ⟨#[]⟩, .slice none 0 0, .slice none 0 0, .bool false, .bool false, .int .i64 0, .string ⟨#[]⟩, .int .i64 0]).alloc (.cells #[.int .i64 0, .int .i64 0, .int .i64 0, .int .i64 0, .int .i64 0, .int .i64 0] 91))
  have hA := Blk.new (w.alloc (.cells #[.string ⟨#[]⟩, .string ⟨#[]⟩, .slice none 0 0, .slice none 0 0, .bool false, .bool false, .int .i64 0, .string ⟨#[]⟩, .int .i64 0] 32)) 91 #[.int .i64 0, .int .i64 0, .int .i64 0, .int .i64 0, .int .i64 0, .int .i64 0]
  rw [World.size_alloc] at hA
  have HT := Lib.hid hA; clear hA
  obtain ⟨v0, v1, v2, v3, v4, v5, v6, v7, v8, vf0, vf1, vf2, vf3, vf4, vf5, vf6, vf7, vf8⟩ := HV.out.c9
  have hms := make_one (w.alloc (.cells #[.string ⟨#[]⟩, .string ⟨#[]⟩, .slice none 0 0, .slice none 0 0, .bool false, .bool false, .int .i64 0, .string ⟨#[]⟩, .int .i64 0] 32))
  rw [World.size_alloc] at hms
  go_enter Tryz.func23, Tryz.ntmps23
  go_wp2_with fail
  have hn := (Blk.new w 32 #[.string ⟨s.toArray⟩, .string ⟨#[]⟩, .slice pm n cm, .slice (some ⟨w.heap.size + 1, 0, none⟩) 1 1, .bool b, .bool false, .int .i64 (-1), .string ⟨#[]⟩, .int .i64 0]).alloc (.cells #[.int .i64 0, .int .i64 0, .int .i64 0, .int .i64 0, .int .i64 0, .int .i64 0] 91)
  obtain ⟨n0, n1, n2, n3, n4, n5, n6, n7, n8, nf0, nf1, nf2, nf3, nf4, nf5, nf6, nf7, nf8⟩ := hn.c9
  have hA := Blk.new (w.alloc (.cells #[.string ⟨s.toArray⟩, .string ⟨#[]⟩, .slice pm n cm, .slice (some ⟨w.heap.size + 1, 0, none⟩) 1 1, .bool b, .bool false, .int .i64 (-1), .string ⟨#[]⟩, .int .i64 0] 32)) 91 #[.int .i64 0, .int .i64 0, .int .i64 0, .int .i64 0, .int .i64 0, .int .i64 0]
  rw [World.size_alloc] at hA
  have HA := Lib.hid hA; clear hA hn HB HV HT hms
  clear v0 v1 v2 v3 v4 v5 v6 v7 v8 vf0 vf1 vf2 vf3 vf4 vf5 vf6 vf7 vf8
  refine bodyPost_ret_by (v := .agg #[.string ⟨s.toArray⟩, .string ⟨#[]⟩, .slice pm n cm, .slice (some ⟨w.heap.size + 1, 0, none⟩) 1 1, .bool b, .bool false, .int .i64 (-1), .string ⟨#[]⟩, .int .i64 0]) (by simp [results, Tryz.f23, go_sem, n0, n1, n2, n3, n4, n5, n6, n7, n8, nf0, nf1, nf2, nf3, nf4, nf5, nf6, nf7, nf8]) rfl ⟨rfl, HA.out, ?_⟩
  exact ((Below.refl w.heap.size w).alloc (Nat.le_refl _) _).alloc (by simp) _
end Go.Proofs.YtikogofioggmlaaGreatDoor
