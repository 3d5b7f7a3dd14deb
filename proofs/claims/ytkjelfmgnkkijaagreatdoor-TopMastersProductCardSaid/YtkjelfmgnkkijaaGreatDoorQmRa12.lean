/-
  Own and reference ratio: Mix, Clamp, Few.
-/
import Derived.Test.YtkjelfmgnkkijaaGreatDoorQmRa11
set_option linter.unusedVariables false
set_option linter.unusedSimpArgs false
namespace Lum
open Go Go.RowKit Go.Shelf
open Go.Lib (decDigits itoa)
theorem mixT_all (a b c : Txt) : mixT a b c = if checkAll [a, b, c] ≠ 0 then ([], checkAll [a, b, c]) else if (rTwo b a qSub).2 ≠ 0 then ([], (rTwo b a qSub).2)
    else if (rTwo (rTwo b a qSub).1 c qMul).2 ≠ 0 then ([], (rTwo (rTwo b a qSub).1 c qMul).2) else rTwo a (rTwo (rTwo b a qSub).1 c qMul).1 qAdd := by
  unfold mixT
  rw [checkAll_three]
  by_cases h1 : checkTwo a b = 0
  · by_cases h2 : ratCheck c = 0
    · simp only [h1, h2, ne_eq, not_true_eq_false, if_false]
    · simp only [h1, h2, ne_eq, not_true_eq_false, not_false_eq_true, if_false, if_true]
  · simp only [h1, ne_eq, not_false_eq_true, if_true]
end Lum
namespace Go.Proofs.YtkjelfmgnkkijaaGreatDoor
open Go.RowKit Go.Shelf Lum
open Go.Lib (decDigits itoa)
attribute [local go_sem] bs_get bs_extract_end bs_extract_from bs_extract bs_append

theorem three_cells (W : World) (a b c : Value) (t : TypeId) : ∀ j, j < 3 → (W.alloc (.cells #[a, b, c] t)).cell? ⟨W.heap.size, j, none⟩ = some ([a, b, c][j]?.getD undef) := by
  intro j hj
  rw [World.cell?_alloc_new]
  match j, hj with
  | 0, _ => rfl
  | 1, _ => rfl
  | 2, _ => rfl
theorem own_checks3 (a b c : Txt) (w : World) (env : Env w) (ha : a.length ≤ 100000) (hb : b.length ≤ 100000) (hc : c.length ≤ 100000) :
    Calls Tryz.prog 181 #[.slice (some ⟨w.heap.size, 0, none⟩) 3 3] (w.alloc (.cells #[.string ⟨a.toArray⟩, .string ⟨b.toArray⟩, .string ⟨c.toArray⟩] 22)) fun e w' => e = .returned (.int .i64 (checkAll [a, b, c])) ∧ Below w.heap.size w w' := by
  have hB := (Below.refl w.heap.size w).alloc (Nat.le_refl _) (.cells #[.string ⟨a.toArray⟩, .string ⟨b.toArray⟩, .string ⟨c.toArray⟩] 22)
  have h := own_checks [a, b, c] w.heap.size (w.alloc (.cells #[.string ⟨a.toArray⟩, .string ⟨b.toArray⟩, .string ⟨c.toArray⟩] 22)) (env.below hB) (by simp) (by intro l hl; simp at hl; rcases hl with rfl | rfl | rfl <;> assumption) (by simp) (by
    intro j hj
    rw [three_cells w _ _ _ _ j hj]
    match j, hj with
    | 0, _ => rfl
    | 1, _ => rfl
    | 2, _ => rfl)
  exact h.mono fun e w' ⟨h1, h2⟩ => ⟨h1, bch' hB h2⟩

set_option maxRecDepth 100000 in
set_option maxHeartbeats 2000000 in
theorem own_mix (a b c : Txt) (w : World) (ha : a.length ≤ 100000) (hb : b.length ≤ 100000) (hc : c.length ≤ 100000) (env : Env w) :
    Calls Tryz.prog 200 #[.string ⟨(a).toArray⟩, .string ⟨(b).toArray⟩, .string ⟨(c).toArray⟩] w fun e w' => e = .returned (.tuple #[.string ⟨((mixT a b c).1).toArray⟩, .int .i64 ((mixT a b c).2)]) ∧ Below w.heap.size w w' := by
  have hk := own_checks3 a b c w env ha hb hc
  rw [mixT_all]
  have la := rTwo_len b a qSub qSub_len
  have lm := rTwo_len (rTwo b a qSub).1 c qMul qMul_len
  have hs := fun W (e : Env W) => own_rsub b a W e hb ha
  have hm := fun W (e : Env W) => own_rmul (rTwo b a qSub).1 c W e la hc
  have hp := fun W (e : Env W) => own_radd a (rTwo (rTwo b a qSub).1 c qMul).1 W e ha lm
  clear la lm
  generalize rTwo a (rTwo (rTwo b a qSub).1 c qMul).1 qAdd = z at *
  generalize rTwo (rTwo b a qSub).1 c qMul = y at *
  generalize rTwo b a qSub = x at *
  obtain ⟨x1, x2⟩ := x
  obtain ⟨y1, y2⟩ := y
  dsimp only at hs hm hp ⊢
  generalize checkAll [a, b, c] = k at *
  clear ha hb hc
  have HS := Lib.hid hs; clear hs
  have HM := Lib.hid hm; clear hm
  have HP := Lib.hid hp; clear hp
  have HK := Lib.hid hk; clear hk
  have ENV := Lib.hid env; clear env
  by_cases h1 : k = 0
  · subst h1
    rw [if_neg (by simp)]
    by_cases h2 : x2 = 0
    · subst h2
      rw [if_neg (by simp)]
      by_cases h3 : y2 = 0
      · subst h3
        rw [if_neg (by simp)]
        go_enter Tryz.func200, Tryz.ntmps200; go_wp2_with fail; refine ((HK.out).mono ?_); rintro e w1 ⟨rfl, hb⟩; have HB := Lib.hid hb; clear hb
        go_wp2_with (first | (with_reducible refine ((HS.out _ (ENV.out.below HB.out)).mono ?_); rintro e w' ⟨rfl, hb⟩; replace HB := Lib.hid (bch' HB.out hb); clear hb) | (with_reducible refine ((HM.out _ (ENV.out.below HB.out)).mono ?_); rintro e w' ⟨rfl, hb⟩; replace HB := Lib.hid (bch' HB.out hb); clear hb) | (with_reducible refine ((HP.out _ (ENV.out.below HB.out)).mono ?_); rintro e w' ⟨rfl, hb⟩; replace HB := Lib.hid (bch' HB.out hb); clear hb))
        go_ret2
        exact ⟨rfl, HB.out⟩
      · rw [if_pos h3]
        have hne : ((y2 : Int) != 0) = true := by simpa using h3
        clear h3
        go_enter Tryz.func200, Tryz.ntmps200; go_wp2_with fail; refine ((HK.out).mono ?_); rintro e w1 ⟨rfl, hb⟩; have HB := Lib.hid hb; clear hb
        go_wp2_with (first | (with_reducible refine ((HS.out _ (ENV.out.below HB.out)).mono ?_); rintro e w' ⟨rfl, hb⟩; replace HB := Lib.hid (bch' HB.out hb); clear hb) | (with_reducible refine ((HM.out _ (ENV.out.below HB.out)).mono ?_); rintro e w' ⟨rfl, hb⟩; replace HB := Lib.hid (bch' HB.out hb); clear hb) | (with_reducible refine ((HP.out _ (ENV.out.below HB.out)).mono ?_); rintro e w' ⟨rfl, hb⟩; replace HB := Lib.hid (bch' HB.out hb); clear hb))
        go_ret2
        exact ⟨rfl, HB.out⟩
    · rw [if_pos h2]
      have hne : ((x2 : Int) != 0) = true := by simpa using h2
      clear h2
      go_enter Tryz.func200, Tryz.ntmps200; go_wp2_with fail; refine ((HK.out).mono ?_); rintro e w1 ⟨rfl, hb⟩; have HB := Lib.hid hb; clear hb
      go_wp2_with (first | (with_reducible refine ((HS.out _ (ENV.out.below HB.out)).mono ?_); rintro e w' ⟨rfl, hb⟩; replace HB := Lib.hid (bch' HB.out hb); clear hb) | (with_reducible refine ((HM.out _ (ENV.out.below HB.out)).mono ?_); rintro e w' ⟨rfl, hb⟩; replace HB := Lib.hid (bch' HB.out hb); clear hb) | (with_reducible refine ((HP.out _ (ENV.out.below HB.out)).mono ?_); rintro e w' ⟨rfl, hb⟩; replace HB := Lib.hid (bch' HB.out hb); clear hb))
      go_ret2
      exact ⟨rfl, HB.out⟩
  · rw [if_pos h1]
    have hne : ((k : Int) != 0) = true := by simpa using h1
    clear h1
    go_enter Tryz.func200, Tryz.ntmps200; go_wp2_with fail; refine ((HK.out).mono ?_); rintro e w1 ⟨rfl, hb⟩; have HB := Lib.hid hb; clear hb
    go_wp2
    go_ret2
    exact ⟨rfl, HB.out⟩

end Go.Proofs.YtkjelfmgnkkijaaGreatDoor
