/-
  strconv.FormatUint at base 10.
-/
import Derived.Test.YtbeojahilbglcaaGreatDoorEnv
import Derived.Lib.AppendIntMem
import Derived.Lib.ItoaMem
import Derived.Sort.Row
set_option linter.unusedVariables false
set_option linter.unusedSimpArgs false
namespace Go.Proofs.YtbeojahilbglcaaGreatDoor
open Go.RowKit Go.Shelf Lum Go.Sort Go.Lib

theorem sh_small (i : Nat) (h : i < 100) (w : World) : Calls Tryz.prog 265 #[.int .i64 i] w fun e w' => e = .returned (.string ⟨(decDigits i).toArray⟩) ∧ w' = w :=
  Any.internal_strconv_small Tryz.lays283 i h w
theorem sh_numDigits (u : Nat) (h1 : 1 ≤ u) (h2 : u < 18446744073709551616) (w : World) (h : Env w) : Calls Tryz.prog 266 #[.int .u64 u] w fun e w' => e = .returned (.int .i64 (nDigits u)) ∧ w' = w :=
  Any.internal_strconv_numDigits Tryz.laysM284 u h1 h2 w h.tab
theorem sh_format10 (blk off cap : Nat) (u : Nat) (d : Array UInt8) (w : World) (hH : Holds (fun (b : UInt8) => Value.int .u8 (b.toNat : Int)) w blk off d) (hu : u < 10 ^ d.size) (hu64 : u < 18446744073709551616) (hsz : d.size < 4611686018427387904) :
    Calls Tryz.prog 267 #[.slice (some ⟨blk, off, none⟩) d.size cap, .int .u64 u] w fun e w' =>
      e = .returned (.tuple #[]) ∧ ∃ (n v' : Nat) (dk : Array UInt8), w' = (putRow (fun (b : UInt8) => Value.int .u8 (b.toNat : Int)) w blk off dk).drewN n ∧ FmtInv d.size u 0 v' dk :=
  Any.internal_strconv_formatBase10 Tryz.lays285 blk off cap u d w hH hu hu64 hsz

set_option maxHeartbeats 2000000 in
set_option maxRecDepth 100000 in
theorem sh_formatUint (u : Nat) (hu : u < 1000000000000000000) (w : World) (h : Env w) :
    Calls Tryz.prog 255 #[.int .u64 u, .int .i64 10] w fun e w' => e = .returned (.string ⟨(decDigits u).toArray⟩) ∧ Below w.heap.size w w' := by
  by_cases hs : u < 100
  · have hS := sh_small u hs w
    have HS := hid hS; clear hS
    go_enter Tryz.func255, Tryz.ntmps255
    go_wp2_with fail
    refine HS.out.mono ?_
    rintro e w' ⟨rfl, rfl⟩
    go_wp2
    go_ret
    exact ⟨rfl, Below.refl _ _⟩
  · have hu1 : 1 ≤ u := by omega
    have hu64 : u < 18446744073709551616 := by omega
    have hnd20 : nDigits u ≤ 20 := by have := numDigits_eq u hu1 hu64; split at this <;> omega
    have hb3 : nDigits u ≤ 24 := by omega
    have hal : Tryz.prog.arrayLen 300 = 24 := by kernel_rfl
    have hsl1 : ∀ W, (Instr.sliceAt 300 (.pointer (some ⟨w.heap.size, 0, none⟩)) none (some (.int .i64 (nDigits u : Int))) none).run Tryz.prog W = .ok (.slice (some ⟨w.heap.size, 0, none⟩) (nDigits u) 24) W := fun W => by
      rw [run_sliceAt_array_h W 300 ⟨w.heap.size, 0, none⟩ (by kernel_rfl) .i64 (nDigits u : Int) (by omega) (by rw [hal]; omega)]
      have hsz : (sizeOf (Tryz.prog.elem 300)).run Tryz.prog W = .ok 1 W := by kernel_rfl
      rw [hsz]
      simp [hal, Result.andThen, slicedAt, add_plain]
    have hH0 := holds_zero0 w 300 (nDigits u) (by omega)
    have hfmt := sh_format10 w.heap.size 0 24 u (Array.replicate (nDigits u) 0) (w.alloc (.cells zeros24 300)) hH0 (by rw [Array.size_replicate]; exact lt_pow_nDigits u) hu64 (by rw [Array.size_replicate]; omega)
    rw [Array.size_replicate] at hfmt
    have HH0 := hid hH0
    have HF := hid hfmt; clear hfmt
    have hN := sh_numDigits u hu1 hu64 (w.alloc (.cells zeros24 300)) (h.below ((Below.refl _ w).alloc (Nat.le_refl _) _))
    have HN := hid hN; clear hN
    clear hH0 hal
    go_enter Tryz.func255, Tryz.ntmps255
    go_wp2_with fail
    refine HN.out.mono ?_
    rintro e w' ⟨rfl, rfl⟩
    go_wp2_with fail
    refine HF.out.mono ?_
    rintro e w' ⟨rfl, k, v', dk, rfl, hF⟩
    have hcv : (convert 202 9 (.slice (some ⟨w.heap.size, 0, none⟩) (nDigits u) 24)).run Tryz.prog ((putRow (fun (b : UInt8) => Value.int .u8 (b.toNat : Int)) (w.alloc (.cells zeros24 300)) w.heap.size 0 dk).drewN k) = .ok (.string ⟨(decDigits u).toArray⟩) ((putRow (fun (b : UInt8) => Value.int .u8 (b.toNat : Int)) (w.alloc (.cells zeros24 300)) w.heap.size 0 dk).drewN k) := by
      have h := run_convert_bytes_back (P := Tryz.prog) ((putRow (fun (b : UInt8) => Value.int .u8 (b.toNat : Int)) (w.alloc (.cells zeros24 300)) w.heap.size 0 dk).drewN k) 202 9 5 ⟨w.heap.size, 0, none⟩ 24 (decDigits u) Tryz.underlying202 Tryz.underlying5 Tryz.underlying9 (fun j hj => by
        rw [row_is_numeral hF j hj, add_plain, World.cell?_drewN]
        exact cell?_putRow (fun (b : UInt8) => Value.int .u8 (b.toNat : Int)) _ w.heap.size 0 _ dk HH0.out (by rw [hF.size, Array.size_replicate]) j (by rw [hF.size]; rw [decDigits_length] at hj; exact hj))
      rw [decDigits_length] at h
      exact h
    have HB : Hid (Below w.heap.size w ((putRow (fun (b : UInt8) => Value.int .u8 (b.toNat : Int)) (w.alloc (.cells zeros24 300)) w.heap.size 0 dk).drewN k)) := by
      obtain ⟨os, eo⟩ : ∃ os, (putRow (fun (b : UInt8) => Value.int .u8 (b.toNat : Int)) (w.alloc (.cells zeros24 300)) w.heap.size 0 dk).drewN k = grow (w.drewN k) os := by
        rw [alloc_eq_grow]
        obtain ⟨os', _, e⟩ := putRow_grow_new (fun (b : UInt8) => Value.int .u8 (b.toNat : Int)) w #[.cells zeros24 300] w.heap.size 0 dk (Nat.le_refl _)
        exact ⟨os', by rw [e]; rfl⟩
      exact grow_below eo
    clear hF
    go_wp2
    go_ret
    exact ⟨rfl, HB.out⟩
theorem sh_formatU (u : Nat) (hu : u < 1000000000000000000) (w : World) (h : Env w) :
    Calls Tryz.prog 233 #[.int .u64 u, .int .i64 10] w fun e w' => e = .returned (.string ⟨(decDigits u).toArray⟩) ∧ Below w.heap.size w w' := by
  have hS := sh_formatUint u hu w h
  have HS := hid hS; clear hS
  go_enter Tryz.func233, Tryz.ntmps233
  go_wp2_with fail
  refine HS.out.mono ?_
  rintro e w' ⟨rfl, hb⟩
  go_wp2
  go_ret
  exact ⟨rfl, hb⟩
end Go.Proofs.YtbeojahilbglcaaGreatDoor
