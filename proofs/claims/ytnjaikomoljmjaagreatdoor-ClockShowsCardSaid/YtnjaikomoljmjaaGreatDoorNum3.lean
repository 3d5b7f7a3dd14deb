/-
  Numbers: sum.
-/
import Derived.Test.YtnjaikomoljmjaaGreatDoorNum2
set_option linter.unusedVariables false
set_option linter.unusedSimpArgs false
namespace Lum
open Go Go.RowKit Go.Shelf
/-- Two numbers and a place for a third one, each in a block of its own. -/
structure Box3 (W : World) (B : Nat) (b1 : Bool) (p1 : Option Addr) (n1 c1 : Nat) (b2 : Bool) (p2 : Option Addr) (n2 c2 : Nat) (b3 : Bool) (p3 : Option Addr) (n3 c3 : Nat) : Prop where
  a0 : W.cell? ⟨B, 0, none⟩ = some (.bool b1)
  a1 : W.cell? ⟨B, 1, none⟩ = some (.slice p1 n1 c1)
  b0 : W.cell? ⟨B + 1, 0, none⟩ = some (.bool b2)
  b1 : W.cell? ⟨B + 1, 1, none⟩ = some (.slice p2 n2 c2)
  c0 : W.cell? ⟨B + 1 + 1, 0, none⟩ = some (.bool b3)
  c1 : W.cell? ⟨B + 1 + 1, 1, none⟩ = some (.slice p3 n3 c3)
  fa0 : W.frozen? ⟨B, 0, none⟩ = false
  fa1 : W.frozen? ⟨B, 1, none⟩ = false
  fb0 : W.frozen? ⟨B + 1, 0, none⟩ = false
  fb1 : W.frozen? ⟨B + 1, 1, none⟩ = false
  fc0 : W.frozen? ⟨B + 1 + 1, 0, none⟩ = false
  fc1 : W.frozen? ⟨B + 1 + 1, 1, none⟩ = false
  lt : B + 1 + 1 < W.heap.size
theorem Box3.below {W W' : World} {B : Nat} {b1 b2 b3 : Bool} {p1 p2 p3 : Option Addr} {n1 c1 n2 c2 n3 c3 : Nat} (h : Box3 W B b1 p1 n1 c1 b2 p2 n2 c2 b3 p3 n3 c3) {m : Nat} (hb : Below m W W') (hm : B + 1 + 1 < m) : Box3 W' B b1 p1 n1 c1 b2 p2 n2 c2 b3 p3 n3 c3 := by
  have q1 : B < m := by omega
  have q2 : B + 1 < m := by omega
  exact ⟨(hb.cell (p := ⟨B, 0, none⟩) q1).trans h.a0, (hb.cell (p := ⟨B, 1, none⟩) q1).trans h.a1, (hb.cell (p := ⟨B + 1, 0, none⟩) q2).trans h.b0, (hb.cell (p := ⟨B + 1, 1, none⟩) q2).trans h.b1, (hb.cell (p := ⟨B + 1 + 1, 0, none⟩) hm).trans h.c0, (hb.cell (p := ⟨B + 1 + 1, 1, none⟩) hm).trans h.c1,
    (hb.frozen (p := ⟨B, 0, none⟩) q1).trans h.fa0, (hb.frozen (p := ⟨B, 1, none⟩) q1).trans h.fa1, (hb.frozen (p := ⟨B + 1, 0, none⟩) q2).trans h.fb0, (hb.frozen (p := ⟨B + 1, 1, none⟩) q2).trans h.fb1, (hb.frozen (p := ⟨B + 1 + 1, 0, none⟩) hm).trans h.fc0, (hb.frozen (p := ⟨B + 1 + 1, 1, none⟩) hm).trans h.fc1, Nat.lt_of_lt_of_le h.lt hb.size⟩
theorem Box3.new (w : World) (t : TypeId) (b1 b2 b3 : Bool) (p1 p2 p3 : Option Addr) (n1 c1 n2 c2 n3 c3 : Nat) :
    Box3 (((w.alloc (.cells #[.bool b1, .slice p1 n1 c1] t)).alloc (.cells #[.bool b2, .slice p2 n2 c2] t)).alloc (.cells #[.bool b3, .slice p3 n3 c3] t)) w.heap.size b1 p1 n1 c1 b2 p2 n2 c2 b3 p3 n3 c3 := by
  constructor <;> simp [go_sem]
end Lum
namespace Go.Proofs.YtnjaikomoljmjaaGreatDoor
open Go.RowKit Go.Shelf Lum
attribute [local go_sem] bs_get bs_extract_end bs_extract_from bs_extract bs_append

set_option maxHeartbeats 4000000 in
theorem num_sum_same (b1 : Bool) (p1 p2 : Option Addr) (n1 c1 n2 c2 : Nat) (x y : Int) (w : World) (h1 : NumAt w b1 p1 n1 c1 x) (h2 : NumAt w b1 p2 n2 c2 y) (hn1 : n1 ≤ 50000) (hn2 : n2 ≤ 50000) :
    Calls Tryz.prog 149 #[.agg #[.bool b1, .slice p1 n1 c1], .agg #[.bool b1, .slice p2 n2 c2]] w fun e w' => ∃ b' p' n' c', e = .returned (.agg #[.bool b', .slice p' n' c']) ∧ NumAt w' b' p' n' c' (x + y) ∧ Below w.heap.size w w' := by
  have hs1 := h1.1
  have hs2 := h2.1
  have hT := fun W (hb : Below w.heap.size w W) => mag_plus p1 p2 n1 c1 n2 c2 x.natAbs y.natAbs W (h1.2.below hb) (h2.2.below hb) (by omega) (by omega)
  have HT := Lib.hid hT; clear hT h1 h2
  have sgs : b1 = decide (x + y < 0) ∧ x.natAbs + y.natAbs = (x + y).natAbs := by
    have e : decide (x < 0) = decide (y < 0) := hs1.symm.trans hs2
    rw [decide_eq_decide] at e
    refine ⟨?_, by omega⟩
    rw [hs1, decide_eq_decide]; omega
  have HSG := Lib.hid sgs; clear sgs hs1 hs2
  have hB := (((Below.refl w.heap.size w).alloc (Nat.le_refl _) (.cells #[.bool b1, .slice p1 n1 c1] 142)).alloc (by simp) (.cells #[.bool b1, .slice p2 n2 c2] 142)).alloc (by simp; omega) (.cells #[.bool false, .slice none 0 0] 142)
  have bx := Box3.new w 142 b1 b1 false p1 p2 none n1 c1 n2 c2 0 0
  have beq : (b1 == b1) = true := by simp
  go_enter Tryz.func149, Tryz.ntmps149
  go_wp2
  generalize ((w.alloc (.cells #[.bool b1, .slice p1 n1 c1] 142)).alloc (.cells #[.bool b1, .slice p2 n2 c2] 142)).alloc (.cells #[.bool false, .slice none 0 0] 142) = W0 at *
  obtain ⟨k1, k2, k3, k4, k5, k6, f1, f2, f3, f4, f5, f6, klt⟩ := id bx
  have HBX := Lib.hid (bx.below ((Below.refl _ W0).drew) klt); clear bx
  go_region_with (go_at_call 175; refine (HT.out _ hB.drew).mono ?_; rintro e w4 ⟨p', n', c', rfl, hM, hb4⟩; have HM := Lib.hid hM; clear hM; obtain ⟨g1, g2, g3, g4, g5, g6, e1, e2, e3, e4, e5, e6, glt⟩ := HBX.out.below hb4 klt)
  all_goals
    go_wp2
    refine bodyPost_ret_by (v := .agg #[.bool b1, .slice p' n' c']) (by simp [results, Tryz.f149, go_sem, g5, g6]) rfl ?_
    have hbz := hB.drew.trans (hb4.mono hB.drew.size)
    exact ⟨_, _, _, _, rfl, ⟨HSG.out.1, by rw [← HSG.out.2]; exact magSet2 HM.out g5 g6 _ _⟩, (hbz.setCell (p := ⟨w.heap.size + 1 + 1, 0, none⟩) (by simp; omega) _).setCell (p := ⟨w.heap.size + 1 + 1, 1, none⟩) (by simp; omega) _⟩
end Go.Proofs.YtnjaikomoljmjaaGreatDoor
