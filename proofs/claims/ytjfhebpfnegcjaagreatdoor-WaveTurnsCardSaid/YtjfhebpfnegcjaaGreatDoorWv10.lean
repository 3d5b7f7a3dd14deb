/-
  Waves: Extremes, Mean.
-/
import Derived.Test.YtjfhebpfnegcjaaGreatDoorWv2
import Derived.Test.YtjfhebpfnegcjaaGreatDoorWp
import Derived.BigQuiet
import Derived.Deep.QuietTactic
import Derived.Outline
set_option linter.unusedVariables false
set_option linter.unusedSimpArgs false
namespace Lum
open Go Go.RowKit Go.Shelf
open Go.Lib (decDigits itoa)
theorem loF_one (l : List (Int × Int)) : loF l 1 = pY l 0 ∧ hiF l 1 = pY l 0 := by
  constructor
  · show min (pY l 0) (pY l 0) = _; omega
  · show max (pY l 0) (pY l 0) = _; omega
end Lum
namespace Go.Proofs.YtjfhebpfnegcjaaGreatDoor
open Go.RowKit Go.Shelf Lum
open Go.Lib (decDigits itoa)
attribute [local go_sem] bs_get bs_extract_end bs_extract_from bs_extract bs_append

set_option maxRecDepth 100000 in
set_option maxHeartbeats 4000000 in
theorem r27_extremes_ok (l : List (Int × Int)) (v : Value) (w : World) (hv : PtsAt w v l) (hn : l.length ≤ 1000000000) (hz : wvE l = 0) :
    Calls Tryz.prog 16 #[v] w fun e w' => e = .returned (.tuple #[.int .i64 (loF l l.length), .int .i64 (hiF l l.length), .int .i64 0]) ∧ Below w.heap.size w w' := by
  have hk := r27_check l v w hv hn
  rw [hz] at hk
  have wv := wvE_zero hz
  clear hz
  have hlo := wv.lo
  have hhi := wv.hi
  obtain ⟨p, c, rfl, hv2⟩ := hv
  obtain ⟨b, o, rfl, hb, hc⟩ := hv2 (fun h => by subst h; simp at hlo)
  clear hv2
  replace hc : PtC w b o l := hc
  have HC := Lib.hid hc; clear hc
  have HK := Lib.hid hk; clear hk
  have hl0 : 0 < l.length := by omega
  go_enter Tryz.func16, Tryz.ntmps16
  go_wp2_with ((with_reducible refine ((HK.out).mono ?_)); rintro e w1 ⟨rfl, hb1⟩; have HB := Lib.hid hb1; clear hb1; obtain ⟨z0, z1⟩ := (HC.out.below HB.out hb).zero hl0)
  go_quiet (fail)
  go_wp2
  go_loopw [6, 7, 8] (fun lo hi i wr => ∃ k : Nat, 1 ≤ k ∧ k ≤ l.length ∧ i = .int .i64 (k : Int) ∧ lo = .int .i64 (loF l k) ∧ hi = .int .i64 (hiF l k) ∧ Below w.heap.size w wr) (fun _ _ i _ => l.length - (intOf i).toNat)
  case atStart => exact ⟨1, by omega, by omega, rfl, by rw [(loF_one l).1], by rw [(loF_one l).2], below_drewN HB.out _⟩
  case round =>
    obtain ⟨k, hk0, hk, rfl, rfl, rfl, hB⟩ := hrel
    have HBW := Lib.hid hB; clear hB
    by_cases hlt : k < l.length
    · have hlt1 : (k : Int) < (l.length : Int) := by omega
      obtain ⟨x1, y1⟩ := HC.out.below HBW.out hb k hlt
      have hbr : b < wr.heap.size := by have := HBW.out.size; omega
      have hun : IntKind.i64.wrap ((k : Int) + 1) = (k : Int) + 1 := IntWalk.i64_in _ (by omega)
      have h1 := Lib.hid (show loF l (k + 1) = min (loF l k) (pY l k) from rfl)
      have h2 := Lib.hid (show hiF l (k + 1) = max (hiF l k) (pY l k) from rfl)
      generalize loF l k = lo at *
      generalize hiF l k = hi at *
      generalize pX l k = X1 at *
      generalize pY l k = Y1 at *
      have HY := Lib.hid hlt1
      go_wp2
      go_region
      all_goals go_wp2_with fail
      exact ⟨⟨k + 1, by omega, by omega, by simp, by rw [h1.out], by rw [h2.out], HBW.out.drew⟩, by simp [intOf]; omega⟩
    · have hlt1 : ¬ (k : Int) < (l.length : Int) := by omega
      obtain rfl : k = l.length := by omega
      go_wp2
      go_ret3
      exact ⟨rfl, HBW.out⟩

set_option maxRecDepth 100000 in
set_option maxHeartbeats 4000000 in
theorem own_extremes_ok (l : List (Int × Int)) (v : Value) (w : World) (hv : PtsAt w v l) (hn : l.length ≤ 1000000000) (hz : wvE l = 0) :
    Calls Tryz.prog 15 #[v] w fun e w' => e = .returned (.tuple #[.int .i64 (loF l l.length), .int .i64 (hiF l l.length), .int .i64 0]) ∧ Below w.heap.size w w' := by
  have hk := own_wcheck l v w hv hn
  rw [hz] at hk
  have wv := wvE_zero hz
  clear hz
  have hlo := wv.lo
  have hhi := wv.hi
  obtain ⟨p, c, rfl, hv2⟩ := hv
  obtain ⟨b, o, rfl, hb, hc⟩ := hv2 (fun h => by subst h; simp at hlo)
  clear hv2
  replace hc : PtC w b o l := hc
  have HC := Lib.hid hc; clear hc
  have HK := Lib.hid hk; clear hk
  have hl0 : 0 < l.length := by omega
  go_enter Tryz.func15, Tryz.ntmps15
  go_wp2_with ((with_reducible refine ((HK.out).mono ?_)); rintro e w1 ⟨rfl, hb1⟩; have HB := Lib.hid hb1; clear hb1; obtain ⟨z0, z1⟩ := (HC.out.below HB.out hb).zero hl0)
  go_quiet (fail)
  go_wp2
  go_loopw [6, 7, 25] (fun lo hi i wr => ∃ k : Nat, 0 ≤ k ∧ k ≤ l.length ∧ i = .int .i64 (k : Int) ∧ lo = .int .i64 (loF l k) ∧ hi = .int .i64 (hiF l k) ∧ Below w.heap.size w wr) (fun _ _ i _ => l.length - (intOf i).toNat)
  case atStart => exact ⟨0, by omega, by omega, rfl, rfl, rfl, below_drewN HB.out _⟩
  case round =>
    obtain ⟨k, hk0, hk, rfl, rfl, rfl, hB⟩ := hrel
    have HBW := Lib.hid hB; clear hB
    by_cases hlt : k < l.length
    · have hlt1 : (k : Int) < (l.length : Int) := by omega
      obtain ⟨x1, y1⟩ := HC.out.below HBW.out hb k hlt
      have hbr : b < wr.heap.size := by have := HBW.out.size; omega
      have hun : IntKind.i64.wrap ((k : Int) + 1) = (k : Int) + 1 := IntWalk.i64_in _ (by omega)
      have h1 := Lib.hid (show loF l (k + 1) = min (loF l k) (pY l k) from rfl)
      have h2 := Lib.hid (show hiF l (k + 1) = max (hiF l k) (pY l k) from rfl)
      generalize loF l k = lo at *
      generalize hiF l k = hi at *
      generalize pX l k = X1 at *
      generalize pY l k = Y1 at *
      have HY := Lib.hid hlt1
      go_wp2
      go_region
      all_goals go_wp2_with fail
      exact ⟨⟨k + 1, by omega, by omega, by simp, by rw [h1.out], by rw [h2.out], (HBW.out.alloc (by have := HBW.out.size; omega) _).drew⟩, by simp [intOf]; omega⟩
    · have hlt1 : ¬ (k : Int) < (l.length : Int) := by omega
      obtain rfl : k = l.length := by omega
      go_wp2
      go_ret3
      exact ⟨rfl, HBW.out⟩

set_option maxRecDepth 100000 in
set_option maxHeartbeats 4000000 in
theorem r27_mean_ok (l : List (Int × Int)) (v : Value) (w : World) (hv : PtsAt w v l) (hn : l.length ≤ 1000000000) (hz : wvE l = 0) :
    Calls Tryz.prog 18 #[v] w fun e w' => e = .returned (.tuple #[.string ⟨(showR (meanW l)).toArray⟩, .int .i64 0]) ∧ Below w.heap.size w w' := by
  have hk := r27_check l v w hv hn
  rw [hz] at hk
  have wv := wvE_zero hz
  clear hz
  have hlo := wv.lo
  have hhi := wv.hi
  obtain ⟨p, c, rfl, hv2⟩ := hv
  obtain ⟨b, o, rfl, hb, hc⟩ := hv2 (fun h => by subst h; simp at hlo)
  clear hv2
  replace hc : PtC w b o l := hc
  have HC := Lib.hid hc; clear hc
  have HK := Lib.hid hk; clear hk
  have hov := fun W => r2_over (areaL l) 2000 W (by have := area_bound wv l.length (by omega) (Nat.le_refl _); rw [List.take_length, wv.x1] at this; omega) (by have := area_bound wv l.length (by omega) (Nat.le_refl _); rw [List.take_length, wv.x1] at this; omega) (by omega) (by omega) (by omega)
  change ∀ W, Calls _ _ _ _ (fun e w' => e = .returned (.string ⟨(showR (meanW l)).toArray⟩) ∧ _) at hov
  have HOV := Lib.hid hov; clear hov
  go_enter Tryz.func18, Tryz.ntmps18
  go_wp2_with ((with_reducible refine ((HK.out).mono ?_)); rintro e w1 ⟨rfl, hb1⟩; have HB := Lib.hid hb1; clear hb1)
  go_loopw [5, 6] (fun s i wr => ∃ k : Nat, 1 ≤ k ∧ k ≤ l.length ∧ i = .int .i64 (k : Int) ∧ s = .int .i64 (areaL (l.take k)) ∧ Below w.heap.size w wr) (fun _ i _ => l.length - (intOf i).toNat)
  case atStart => exact ⟨1, by omega, by omega, rfl, by have : areaL (l.take 1) = 0 := (by cases l with | nil => rfl | cons a r => rfl); rw [this], HB.out⟩
  case round =>
    obtain ⟨k, hk0, hk, rfl, rfl, hB⟩ := hrel
    have HBW := Lib.hid hB; clear hB
    by_cases hlt : k < l.length
    · have hlt1 : (k : Int) < (l.length : Int) := by omega
      obtain ⟨x1, y1⟩ := HC.out.below HBW.out hb k hlt
      obtain ⟨x0, y0⟩ := HC.out.below HBW.out hb (k - 1) (by omega)
      have hi1 : k - 1 < l.length := by omega
      have hm1 : IntKind.i64.wrap ((k : Int) - 1) = ((k - 1 : Nat) : Int) := by rw [IntWalk.i64_in _ (by omega)]; omega
      have hun : IntKind.i64.wrap ((k : Int) + 1) = (k : Int) + 1 := IntWalk.i64_in _ (by omega)
      have h1 := Lib.hid (areaL_take (l := l) hk0 hlt)
      have r1 := wv.range hlt
      have r0 := wv.range hi1
      have q1 := wv.h k hlt
      have q0 := wv.h (k - 1) hi1
      have s1 := wv.s (k - 1) (by omega)
      rw [show k - 1 + 1 = k by omega] at s1
      have ab := area_bound wv k hk0 hk
      have m1 : (pX l k - pX l (k - 1)) * (pY l k + pY l (k - 1)) ≤ (pX l k - pX l (k - 1)) * 2000 := Int.mul_le_mul_of_nonneg_left (by omega) (by omega)
      have m2 : (pX l k - pX l (k - 1)) * (-2000) ≤ (pX l k - pX l (k - 1)) * (pY l k + pY l (k - 1)) := Int.mul_le_mul_of_nonneg_left (by omega) (by omega)
      have v1 : IntKind.i64.wrap (pX l k - pX l (k - 1)) = pX l k - pX l (k - 1) := IntWalk.i64_in _ (by omega)
      have v2 : IntKind.i64.wrap (pY l k + pY l (k - 1)) = pY l k + pY l (k - 1) := IntWalk.i64_in _ (by omega)
      have v3 : IntKind.i64.wrap ((pX l k - pX l (k - 1)) * (pY l k + pY l (k - 1))) = (pX l k - pX l (k - 1)) * (pY l k + pY l (k - 1)) := IntWalk.i64_in _ (by omega)
      have v4 : IntKind.i64.wrap (areaL (l.take k) + (pX l k - pX l (k - 1)) * (pY l k + pY l (k - 1))) = areaL (l.take k) + (pX l k - pX l (k - 1)) * (pY l k + pY l (k - 1)) := IntWalk.i64_in _ (by omega)
      clear r1 r0 q1 q0 s1 ab m1 m2
      generalize areaL (l.take k) = ar at *
      generalize pX l k = X1 at *
      generalize pX l (k - 1) = X0 at *
      generalize pY l k = Y1 at *
      generalize pY l (k - 1) = Y0 at *
      go_wp2
      go_quiet (fail)
      go_wp2
      go_roundw
      case rel => exact ⟨k + 1, by omega, by omega, by simp, by rw [h1.out], below_drewN HBW.out _⟩
      case measure => simp [intOf]; omega
    · have hlt1 : ¬ (k : Int) < (l.length : Int) := by omega
      obtain rfl : k = l.length := by omega
      rw [List.take_length]
      generalize areaL l = ar at *
      go_wp2_with ((with_reducible refine ((HOV.out _).mono ?_)); rintro e w2 ⟨rfl, hb2⟩)
      go_ret2
      exact ⟨rfl, bch' HBW.out hb2⟩
end Go.Proofs.YtjfhebpfnegcjaaGreatDoor
