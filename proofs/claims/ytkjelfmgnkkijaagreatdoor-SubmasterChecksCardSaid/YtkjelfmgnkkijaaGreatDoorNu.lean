/-
  Numbers between bounds: levels, what is left, factors.
-/
import Derived.Test.YtkjelfmgnkkijaaGreatDoorSp
set_option linter.unusedVariables false
set_option linter.unusedSimpArgs false
namespace Lum
open Go Go.RowKit Go.Shelf
open Go.Lib (decDigits itoa)
/-- Rational bounds. -/
theorem mul_01 {a b : Rat} (a0 : 0 ≤ a) (a1 : a ≤ 1) (b0 : 0 ≤ b) (b1 : b ≤ 1) : 0 ≤ a * b ∧ a * b ≤ 1 := by
  refine ⟨Rat.mul_nonneg a0 b0, ?_⟩
  have h := Rat.mul_nonneg (show 0 ≤ 1 - a by grind) b0
  grind
theorem mul_le_of {a b : Rat} (a0 : 0 ≤ a) (b1 : b ≤ 1) : a * b ≤ a := by
  have h := Rat.mul_nonneg a0 (show 0 ≤ 1 - b by grind)
  grind
theorem mul_le_r {a b c : Rat} (h : a ≤ b) (c0 : 0 ≤ c) : a * c ≤ b * c := by
  have h := Rat.mul_nonneg (show 0 ≤ b - a by grind) c0
  grind
theorem part_01 {a b : Int} (h0 : 0 ≤ a) (h1 : a ≤ b) (h2 : 0 < b) : 0 ≤ Rat.divInt a b ∧ Rat.divInt a b ≤ 1 := by
  have hb : (0 : Rat) < ((b : Int) : Rat) := by rw [show (0 : Rat) = ((0 : Int) : Rat) from rfl]; exact Rat.intCast_lt_intCast.2 h2
  have ha : (0 : Rat) ≤ ((a : Int) : Rat) := by rw [show (0 : Rat) = ((0 : Int) : Rat) from rfl]; exact Rat.intCast_le_intCast.2 h0
  have hc : ((a : Int) : Rat) ≤ ((b : Int) : Rat) := Rat.intCast_le_intCast.2 h1
  rw [Rat.divInt_eq_div]
  refine ⟨Rat.not_lt.1 fun g => ?_, Rat.not_lt.1 fun g => ?_⟩
  · rw [Rat.div_lt_iff hb] at g; grind
  · rw [Rat.lt_div_iff hb] at g; grind
theorem glV_range {q : Rat} {tz st ti : Int} (t : Int) (q0 : 0 ≤ q) (q1 : q ≤ ((65535 : Int) : Rat)) (h0 : 0 ≤ tz ∧ tz ≤ 65535) (t0 : 0 ≤ ti) : 0 ≤ glV q tz st ti t ∧ glV q tz st ti t ≤ ((65535 : Int) : Rat) := by
  have o0 : (0 : Rat) ≤ ((tz : Int) : Rat) := by rw [show (0 : Rat) = ((0 : Int) : Rat) from rfl]; exact Rat.intCast_le_intCast.2 h0.1
  have o1 : ((tz : Int) : Rat) ≤ ((65535 : Int) : Rat) := Rat.intCast_le_intCast.2 h0.2
  unfold glV
  split
  · exact ⟨q0, q1⟩
  split
  · exact ⟨o0, o1⟩
  · rename_i g1 g2
    obtain ⟨r0, r1⟩ := part_01 (a := t - st) (b := ti) (by omega) (by omega) (by omega)
    generalize Rat.divInt (t - st) ti = r at *
    generalize ((tz : Int) : Rat) = z at *
    generalize ((65535 : Int) : Rat) = m at *
    have e0 := Rat.mul_nonneg q0 (show 0 ≤ 1 - r by grind)
    have e1 := Rat.mul_nonneg o0 r0
    have e2 := Rat.mul_nonneg (show 0 ≤ m - q by grind) (show 0 ≤ 1 - r by grind)
    have e3 := Rat.mul_nonneg (show 0 ≤ m - z by grind) r0
    exact ⟨by grind, by grind⟩
theorem over_01 {x : Rat} (h0 : 0 ≤ x) (h1 : x ≤ ((65535 : Int) : Rat)) : 0 ≤ x / ((65535 : Int) : Rat) ∧ x / ((65535 : Int) : Rat) ≤ 1 := by
  have hm : (0 : Rat) < ((65535 : Int) : Rat) := by decide +kernel
  generalize ((65535 : Int) : Rat) = m at *
  refine ⟨Rat.not_lt.1 fun g => ?_, Rat.not_lt.1 fun g => ?_⟩
  · rw [Rat.div_lt_iff hm] at g; grind
  · rw [Rat.lt_div_iff hm] at g; grind
theorem losQ_01 {g : Int} {q : Rat} (h0 : 0 ≤ g) (h1 : g ≤ 65535) (q0 : 0 ≤ q) (q1 : q ≤ ((65535 : Int) : Rat)) : 0 ≤ losQ g q ∧ losQ g q ≤ 1 := by
  obtain ⟨r0, r1⟩ := part_01 (a := g) (b := 65535) h0 h1 (by decide)
  unfold losQ
  generalize hr : Rat.divInt g 65535 = r at *
  have e0 := Rat.mul_nonneg (show 0 ≤ ((65535 : Int) : Rat) - q by grind) r0
  have e1 := mul_le_of (show 0 ≤ ((65535 : Int) : Rat) - q by grind) r1
  obtain ⟨o0, o1⟩ := over_01 e0 (Rat.le_trans e1 (by grind))
  generalize ((((65535 : Int) : Rat) - q) * r) / ((65535 : Int) : Rat) = y at *
  exact ⟨by grind, by grind⟩
theorem fadL_range {f : Fdr} (t : Int) (h : fgE f = 0) : 0 ≤ fadL f t ∧ fadL f t ≤ ((65535 : Int) : Rat) := by
  unfold fgE at h
  obtain ⟨q, -, e2, hq, h2, -, h4⟩ := glq h
  unfold fadL
  rw [e2]
  exact glV_range t hq.1 hq.2 h2 h4.1
theorem sclQ_01 {s : Sb} {l : List Fdr} (ch t : Int) (hs : SubOk s) (hl : FacOk l) : 0 ≤ sclQ s l ch t ∧ sclQ s l ch t ≤ 1 := by
  unfold sclQ
  have one : (0 : Rat) ≤ 1 ∧ (1 : Rat) ≤ 1 := by decide +kernel
  split
  · rename_i g hg
    split
    · obtain ⟨a, b⟩ := gnG_range hs hg
      obtain ⟨c, d⟩ := fadL_range t (fadG_fg (nu := s.nu) (inh := s.inh) hl)
      exact losQ_01 a b c d
    · exact one
  · exact one
end Lum
