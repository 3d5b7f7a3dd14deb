/-
  A fader that stands; Few at submasters and faders.
-/
import Derived.Test.YtkjelfmgnkkijaaGreatDoorQfSp
import Derived.Test.YtkjelfmgnkkijaaGreatDoorQfQq
import Derived.Laws.StructEq
set_option linter.unusedVariables false
set_option linter.unusedSimpArgs false
namespace Lum
open Go Go.RowKit Go.Shelf
open Go.Lib (decDigits itoa)
theorem mul_le_r {a b c : Rat} (h : a ≤ b) (c0 : 0 ≤ c) : a * c ≤ b * c := by
  have h := Rat.mul_nonneg (show 0 ≤ b - a by grind) c0
  grind
theorem part_01 {a b : Int} (h0 : 0 ≤ a) (h1 : a ≤ b) (h2 : 0 < b) : 0 ≤ Rat.divInt a b ∧ Rat.divInt a b ≤ 1 := by
  have hb : (0 : Rat) < ((b : Int) : Rat) := by rw [show (0 : Rat) = ((0 : Int) : Rat) from rfl]; exact Rat.intCast_lt_intCast.2 h2
  have ha : (0 : Rat) ≤ ((a : Int) : Rat) := by rw [show (0 : Rat) = ((0 : Int) : Rat) from rfl]; exact Rat.intCast_le_intCast.2 h0
  have hc : ((a : Int) : Rat) ≤ ((b : Int) : Rat) := Rat.intCast_le_intCast.2 h1
  rw [Rat.divInt_eq_div]
  refine ⟨Rat.not_lt.1 fun g => ?_, Rat.not_lt.1 fun g => ?_⟩
  · rw [Rat.div_lt_iff hb] at g; grind
  · rw [Rat.lt_div_iff hb] at g; grind
theorem glV_range {q : Rat} {tz st ti : Int} (t : Int) (q0 : 0 ≤ q) (q1 : q ≤ ((65535 : Int) : Rat)) (h0 : 0 ≤ tz ∧ tz ≤ 65535) (t0 : 0 ≤ ti) : 0 ≤ glV q tz st ti t ∧ glV q tz st ti t ≤ ((65535 : Int) : Rat) := by
  have o0 : (0 : Rat) ≤ ((tz : Int) : Rat) := by rw [show (0 : Rat) = ((0 : Int) : Rat) from rfl]; exact Rat.intCast_le_intCast.2 h0.1
  have o1 : ((tz : Int) : Rat) ≤ ((65535 : Int) : Rat) := Rat.intCast_le_intCast.2 h0.2
  unfold glV
  split
  · exact ⟨q0, q1⟩
  split
  · exact ⟨o0, o1⟩
  · rename_i g1 g2
    obtain ⟨r0, r1⟩ := part_01 (a := t - st) (b := ti) (by omega) (by omega) (by omega)
    generalize Rat.divInt (t - st) ti = r at *
    generalize ((tz : Int) : Rat) = z at *
    generalize ((65535 : Int) : Rat) = m at *
    have e0 := Rat.mul_nonneg q0 (show 0 ≤ 1 - r by grind)
    have e1 := Rat.mul_nonneg o0 r0
    have e2 := Rat.mul_nonneg (show 0 ≤ m - q by grind) (show 0 ≤ 1 - r by grind)
    have e3 := Rat.mul_nonneg (show 0 ≤ m - z by grind) r0
    exact ⟨by grind, by grind⟩
theorem fadL_range {f : Fdr} (t : Int) (h : fgE f = 0) : 0 ≤ fadL f t ∧ fadL f t ≤ ((65535 : Int) : Rat) := by
  unfold fgE at h
  obtain ⟨q, -, e2, hq, h2, -, h4⟩ := glq h
  unfold fadL
  rw [e2]
  exact glV_range t hq.1 hq.2 h2 h4.1
end Lum
namespace Lum
open Go Go.RowKit Go.Shelf
open Go.Lib (decDigits itoa)
def fdN (n v : Int) : Fdr := ⟨n, [48], v, 0, 0, 0⟩
theorem fds_nil (W : World) : FdsAt W (.slice none 0 0) [] := ⟨none, 0, rfl, Nat.le_refl _, fun h => absurd rfl h⟩
theorem fdN_len {l : List Fdr} (h : l = [] ∨ (∃ n v, l = [fdN n v]) ∨ ∃ n v m u, l = [fdN n v, fdN m u]) : ∀ i, i < l.length → (fdv l i).fr.length ≤ 60 := by
  intro i hi
  rcases h with rfl | ⟨n, v, rfl⟩ | ⟨n, v, m, u, rfl⟩
  · simp at hi
  · match i, hi with
    | 0, _ => show List.length [48] ≤ 60; decide
  · match i, hi with
    | 0, _ => show List.length [48] ≤ 60; decide
    | 1, _ => show List.length [48] ≤ 60; decide
/-- A call that says whether something is few; if it says so, p. -/
def FewB (p : Prop) (w : World) (e : Ending) (w' : World) : Prop := ∃ b, e = .returned (.bool b) ∧ (b = true → p) ∧ Below w.heap.size w w'
end Lum
namespace Go.Proofs.YtkjelfmgnkkijaaGreatDoor
open Go.RowKit Go.Shelf Lum
open Go.Lib (decDigits itoa)
attribute [local go_sem] bs_get bs_extract_end bs_extract_from bs_extract bs_append

set_option maxRecDepth 100000 in
set_option maxHeartbeats 4000000 in
theorem r26_few (su : List Sb) (sv : Value) (w : World) (hv : SbsAt w sv su) :
    Calls Tryz.prog 29 #[sv] w fun e w' => FewB True w e w' := by
  obtain ⟨p, c, rfl, -, hv1⟩ := hv
  have hv2 := Lib.hid hv1; clear hv1
  have HB := Lib.hid (Below.refl w.heap.size w)
  go_enter Tryz.func29, Tryz.ntmps29
  go_wp2_with fail
  go_loopw [3] (fun i wr => ∃ k r : Nat, i = .int .i64 (k : Int) ∧ Hid (k + r = su.length) ∧ Hid (Below w.heap.size w wr)) (fun i _ => su.length - (intOf i).toNat)
  case atStart => exact ⟨0, su.length, rfl, Lib.hid (by omega), HB⟩
  case round =>
    obtain ⟨k, r, rfl, hkr, HB2⟩ := hrel
    clear HB
    have HB := HB2; clear HB2
    cases r with
    | zero =>
      have hlt : ¬ (k : Int) < (su.length : Int) := by have := hkr.out; omega
      go_wp2
      go_ret
      exact ⟨_, rfl, fun _ => trivial, HB.out⟩
    | succ r =>
      have hkl : k < su.length := by have := hkr.out; omega
      have hlt : (k : Int) < (su.length : Int) := by omega
      by_cases h40 : (k : Int) < 40
      · obtain ⟨b, o, rfl, hb, hC⟩ := hv2.out (fun h => by subst h; simp at hkl)
        obtain ⟨x1, x2, x3, gv, x4, hgn⟩ := hC.below HB.out hb k hkl
        obtain ⟨pg, cg, rfl, -⟩ := hgn
        clear hC
        have hbr : b < wr.heap.size := by have := HB.out.size; omega
        have hun : IntKind.i64.wrap ((k : Int) + 1) = (k : Int) + 1 := IntWalk.i64_in _ (by omega)
        by_cases h30 : (30 : Int) < ((sbv su k).gs.length : Int)
        · by_cases h128 : ((sbv su k).gs.length : Int) ≤ 128
          · go_wp2
            go_ret
            exact ⟨_, rfl, fun _ => trivial, HB.out⟩
          · go_wp2
            go_roundw
            case rel => exact ⟨k + 1, r, by first | rfl | simp, Lib.hid (by have := hkr.out; omega), HB⟩
            case measure => first | (simp [intOf]; done) | (simp [intOf]; omega)
        · go_wp2
          go_roundw
          case rel => exact ⟨k + 1, r, by first | rfl | simp, Lib.hid (by have := hkr.out; omega), HB⟩
          case measure => first | (simp [intOf]; done) | (simp [intOf]; omega)
      · go_wp2
        go_ret
        exact ⟨_, rfl, fun _ => trivial, HB.out⟩

end Go.Proofs.YtkjelfmgnkkijaaGreatDoor
