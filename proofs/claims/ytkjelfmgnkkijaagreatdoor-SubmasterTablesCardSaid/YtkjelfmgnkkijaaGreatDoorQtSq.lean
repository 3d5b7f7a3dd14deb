/-
  Submasters, plain: what a movement makes of faders; bounds.
-/
import Derived.Test.YtkjelfmgnkkijaaGreatDoorQtNf
import Derived.Test.YtkjelfmgnkkijaaGreatDoorOi
set_option linter.unusedVariables false
set_option linter.unusedSimpArgs false
namespace Lum
open Go Go.RowKit Go.Shelf
open Go.Lib (decDigits itoa)
/-- A fader that is moved. -/
def mvF (nu : Int) (inh : Bool) (l : List Fdr) (t to_ ti : Int) (mv : Bool) : Fdr := ⟨(fadG nu inh l).su, showR (lvlQ nu inh l t), to_, t, ti, if mv = false ∨ lvlQ nu inh l t = 0 then t else (fadG nu inh l).stp⟩
theorem mvF_new {nu : Int} {inh : Bool} {l : List Fdr} {t to_ ti : Int} : mvF nu inh l t to_ ti false = ⟨(fadG nu inh l).su, showR (lvlQ nu inh l t), to_, t, ti, t⟩ := by unfold mvF; rw [if_pos (.inl rfl)]
theorem mvF_zero {nu : Int} {inh : Bool} {l : List Fdr} {t to_ ti : Int} (h : lvlQ nu inh l t = 0) : mvF nu inh l t to_ ti true = ⟨(fadG nu inh l).su, showR (lvlQ nu inh l t), to_, t, ti, t⟩ := by unfold mvF; rw [if_pos (.inr h)]
theorem mvF_on {nu : Int} {inh : Bool} {l : List Fdr} {t to_ ti : Int} (h : ¬ lvlQ nu inh l t = 0) : mvF nu inh l t to_ ti true = ⟨(fadG nu inh l).su, showR (lvlQ nu inh l t), to_, t, ti, (fadG nu inh l).stp⟩ := by unfold mvF; rw [if_neg (fun g => g.elim (fun g => absurd g (by decide)) h)]
/-- Whether a movement is in range. -/
def mvIn (t to_ ti : Int) : Prop := ((0 ≤ t ∧ t ≤ 10000000) ∧ (0 ≤ ti ∧ ti ≤ 10000000)) ∧ (0 ≤ to_ ∧ to_ ≤ 65535)
instance (t to_ ti : Int) : Decidable (mvIn t to_ ti) := by unfold mvIn; exact inferInstance
/-- Where a number belongs in sorted numbers, and whether it is there. -/
structure Belongs (c : Nat → Int) (n : Nat) (nu : Int) (i : Nat) (hit : Bool) : Prop where
  le : i ≤ n
  bef : ∀ j, j < i → c j < nu
  yes : hit = true → i < n ∧ c i = nu
  no : hit = false → ∀ j, i ≤ j → j < n → nu < c j
  aft : ∀ j, i < j → j < n → nu < c j
theorem halved_belongs {c : Nat → Int} {n i : Nat} {nu : Int} (hs : ∀ j, j < n → ∀ k, k < j → c k < c j) (h : Halved (fun k => c k - nu) n i) : Belongs c n nu i (decide (i < n ∧ c i - nu = 0)) := by
  obtain ⟨h1, h2, h3⟩ := h
  dsimp only at h2 h3
  have hb : ∀ j, j < i → c j < nu := fun j hj => by
    have h4 := h2 (by omega)
    by_cases e : j = i - 1
    · subst e; omega
    · have := hs (i - 1) (by omega) j (by omega); omega
  refine ⟨h1, hb, fun e => ?_, fun e j hj hn => ?_, fun j hj hn => ?_⟩
  · have := of_decide_eq_true e; exact ⟨this.1, by omega⟩
  · have e2 := of_decide_eq_false e
    have h4 := h3 (by omega)
    have h5 : ¬ c i - nu = 0 := fun g => e2 ⟨by omega, g⟩
    by_cases e3 : j = i
    · subst e3; omega
    · have := hs j hn i (by omega); omega
  · have h4 := h3 (by omega)
    have := hs j hn i hj; omega
theorem Belongs.uniq {c : Nat → Int} {n i j : Nat} {nu : Int} {a b : Bool} (h : Belongs c n nu i a) (g : Belongs c n nu j b) : i = j ∧ a = b := by
  have e : i = j := by
    rcases Nat.lt_trichotomy i j with k | k | k
    · have h1 := g.bef i k
      have h2 := g.le
      cases a
      · have := h.no rfl i (Nat.le_refl _) (by omega); omega
      · have := (h.yes rfl).2; omega
    · exact k
    · have h1 := h.bef j k
      have h2 := h.le
      cases b
      · have := g.no rfl j (Nat.le_refl _) (by omega); omega
      · have := (g.yes rfl).2; omega
  subst e
  refine ⟨rfl, ?_⟩
  cases a <;> cases b <;> try rfl
  · have h1 := g.yes rfl
    have := h.no rfl i (Nat.le_refl _) h1.1; omega
  · have h1 := h.yes rfl
    have := g.no rfl i (Nat.le_refl _) h1.1; omega
theorem fadG_su (nu : Int) (inh : Bool) (l : List Fdr) : (fadG nu inh l).su = nu := by
  unfold fadG
  cases h : l.find? (fun f => f.su == nu) with
  | none => cases inh <;> rfl
  | some f => have := List.find?_some h; simpa using this
theorem sorted_cut (c : Nat → Int) (nu : Int) : ∀ n, ∃ i, i ≤ n ∧ (∀ j, j < i → c j < nu) ∧ (i < n → nu ≤ c i) := by
  intro n
  induction n with
  | zero => exact ⟨0, Nat.le_refl _, fun j h => absurd h (Nat.not_lt_zero _), fun h => absurd h (Nat.lt_irrefl _)⟩
  | succ n ih =>
    obtain ⟨i, h1, h2, h3⟩ := ih
    by_cases g : i < n
    · exact ⟨i, by omega, h2, fun _ => h3 g⟩
    · obtain rfl : i = n := by omega
      by_cases k : c i < nu
      · refine ⟨i + 1, by omega, fun j hj => ?_, fun h => absurd h (Nat.lt_irrefl _)⟩
        by_cases e : j = i
        · subst e; exact k
        · exact h2 j (by omega)
      · exact ⟨i, by omega, h2, fun _ => by omega⟩
end Lum
