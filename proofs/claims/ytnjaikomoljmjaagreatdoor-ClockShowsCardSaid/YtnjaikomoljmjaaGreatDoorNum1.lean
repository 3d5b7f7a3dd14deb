/-
  Numbers (sign and magnitude): negative, sign, product.
-/
import Derived.Test.YtnjaikomoljmjaaGreatDoorMag10
import Derived.Test.YtnjaikomoljmjaaGreatDoorRef9
set_option linter.unusedVariables false
set_option linter.unusedSimpArgs false
namespace Lum
open Go Go.RowKit Go.Shelf
/-- The slice (p, n, c) holds the words of the magnitude of x, b says whether x is less than 0. -/
def NumAt (W : World) (b : Bool) (p : Option Addr) (n c : Nat) (x : Int) : Prop := b = decide (x < 0) ∧ MagAt W p n c x.natAbs
theorem NumAt.below {W W' : World} {b : Bool} {p : Option Addr} {n c : Nat} {x : Int} (h : NumAt W b p n c x) (hb : Below W.heap.size W W') : NumAt W' b p n c x := ⟨h.1, h.2.below hb⟩
theorem NumAt.zero {W : World} {b : Bool} {p : Option Addr} {n c : Nat} {x : Int} (h : NumAt W b p n c x) : n = 0 ↔ x = 0 := by
  rw [h.2.n, magL_nil]; omega
theorem natsSet {k : IntKind} {W : World} {v : Value} {ws : List Nat} (h : NatsAt k W v ws) {a : Addr} {u : Value} (hc : W.cell? a = some u) (hu : ∀ n : Int, u ≠ .int k n) (x : Value) : NatsAt k (W.setCell a x) v ws := by
  rcases h with h | ⟨b, of, c, e, h1, h2, h3, h4⟩
  · exact .inl h
  · refine .inr ⟨b, of, c, e, by simpa [World.setCell] using h1, h2, h3, fun j hj => ?_⟩
    have h5 := h4 j hj
    by_cases ha : a = ⟨b, of + j, none⟩
    · subst ha
      rw [hc] at h5
      exact absurd (Option.some.inj h5) (hu _)
    · rw [World.cell?_setCell_other (w := W) (h := ha)]; exact h5
/-- A result cell of two parts is written: what was read, is read still. -/
theorem natsSet2 {k : IntKind} {W : World} {v : Value} {ws : List Nat} (h : NatsAt k W v ws) {B : Nat} {b : Bool} {p : Option Addr} {n c : Nat} (h0 : W.cell? ⟨B, 0, none⟩ = some (.bool b)) (h1 : W.cell? ⟨B, 1, none⟩ = some (.slice p n c)) (x y : Value) :
    NatsAt k ((W.setCell ⟨B, 0, none⟩ x).setCell ⟨B, 1, none⟩ y) v ws := by
  refine natsSet (natsSet h h0 (fun n e => by cases e) x) (u := .slice p n c) ?_ (fun n e => by cases e) y
  rw [World.cell?_setCell_other (w := W) (h := by simp)]; exact h1
theorem magSet2 {W : World} {p' : Option Addr} {n' c' m : Nat} (h : MagAt W p' n' c' m) {B : Nat} {b : Bool} {p : Option Addr} {n c : Nat} (h0 : W.cell? ⟨B, 0, none⟩ = some (.bool b)) (h1 : W.cell? ⟨B, 1, none⟩ = some (.slice p n c)) (x y : Value) :
    MagAt ((W.setCell ⟨B, 0, none⟩ x).setCell ⟨B, 1, none⟩ y) p' n' c' m := ⟨natsSet2 h.1 h0 h1 x y, h.2⟩
end Lum
namespace Go.Proofs.YtnjaikomoljmjaaGreatDoor
open Go.RowKit Go.Shelf Lum
attribute [local go_sem] bs_get bs_extract_end bs_extract_from bs_extract bs_append

set_option maxHeartbeats 1000000 in
theorem num_negative (b : Bool) (p : Option Addr) (n c : Nat) (x : Int) (w : World) (h : NumAt w b p n c x) :
    Calls Tryz.prog 150 #[.agg #[.bool b, .slice p n c]] w fun e w' => ∃ b' p' n' c', e = .returned (.agg #[.bool b', .slice p' n' c']) ∧ NumAt w' b' p' n' c' (-x) ∧ Below w.heap.size w w' := by
  have hz := h.zero
  have hb := h.1
  have hm := h.2
  have HZ := Lib.hid hz; clear hz
  have HB := Lib.hid hb; clear hb
  have HM := Lib.hid hm; clear hm h
  have hB := ((Below.refl w.heap.size w).alloc (Nat.le_refl _) (.cells #[.bool b, .slice p n c] 142))
  cases b
  · go_enter Tryz.func150, Tryz.ntmps150
    go_wp2
    refine bodyPost_ret_by (v := .agg #[.bool (decide (0 < n)), .slice p n c]) (by simp [results, Tryz.f150, go_sem]) rfl ?_
    have hbb := hB.alloc (by simp) (.cells #[.bool (decide (0 < n)), .slice p n c] 142)
    refine ⟨_, p, n, c, rfl, ⟨?_, ?_⟩, hbb⟩
    · have h1 := HB.out
      have h2 := HZ.out
      have h3 : ¬ x < 0 := by simpa using h1.symm
      rw [decide_eq_decide]; omega
    · rw [Int.natAbs_neg]; exact HM.out.below hbb
  · go_enter Tryz.func150, Tryz.ntmps150
    go_wp2
    refine bodyPost_ret_by (v := .agg #[.bool false, .slice p n c]) (by simp [results, Tryz.f150, go_sem]) rfl ?_
    have hbb := hB.alloc (by simp) (.cells #[.bool false, .slice p n c] 142)
    refine ⟨_, p, n, c, rfl, ⟨?_, ?_⟩, hbb⟩
    · have h3 : x < 0 := by simpa using HB.out.symm
      symm; rw [decide_eq_false_iff_not]; omega
    · rw [Int.natAbs_neg]; exact HM.out.below hbb

set_option maxHeartbeats 1000000 in
theorem num_sign (b : Bool) (p : Option Addr) (n c : Nat) (x : Int) (w : World) (h : NumAt w b p n c x) :
    Calls Tryz.prog 151 #[.agg #[.bool b, .slice p n c]] w fun e w' => e = .returned (.int .i64 (sgnZ x)) ∧ Below w.heap.size w w' := by
  have hz := h.zero
  have hb := h.1
  have HZ := Lib.hid hz; clear hz
  have HB := Lib.hid hb; clear hb h
  have hB := ((Below.refl w.heap.size w).alloc (Nat.le_refl _) (.cells #[.bool b, .slice p n c] 142))
  by_cases hn : n = 0
  · have HX0 : Hid (x = 0) := HZ.out.1 hn
    subst hn
    go_enter Tryz.func151, Tryz.ntmps151
    go_wp2
    go_ret
    exact ⟨ret_int (by rw [HX0.out]; rfl), hB⟩
  · have hx : x ≠ 0 := fun h => hn (HZ.out.2 h)
    have HX := Lib.hid hx; clear hx
    have hn2 : ((n : Int) == 0) = false := by rw [beq_eq_false_iff_ne]; omega
    clear hn
    cases b
    · go_enter Tryz.func151, Tryz.ntmps151
      go_wp2
      go_ret
      have h3 : ¬ x < 0 := by simpa using HB.out.symm
      exact ⟨ret_int (by unfold sgnZ; have := HX.out; repeat' split
                         all_goals omega), hB⟩
    · go_enter Tryz.func151, Tryz.ntmps151
      go_wp2
      go_ret
      have h3 : x < 0 := by simpa using HB.out.symm
      exact ⟨ret_int (by unfold sgnZ; have := HX.out; repeat' split
                         all_goals omega), hB⟩
end Go.Proofs.YtnjaikomoljmjaaGreatDoor
