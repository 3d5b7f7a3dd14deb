/-
  Submasters, plain: what a movement makes of faders; bounds.
-/
import Derived.Test.YtkjelfmgnkkijaaGreatDoorQfNf
import Derived.Test.YtkjelfmgnkkijaaGreatDoorQfOi
set_option linter.unusedVariables false
set_option linter.unusedSimpArgs false
namespace Lum
open Go Go.RowKit Go.Shelf
open Go.Lib (decDigits itoa)
/-- A fader that is moved. -/
def mvF (nu : Int) (inh : Bool) (l : List Fdr) (t to_ ti : Int) (mv : Bool) : Fdr := ⟨(fadG nu inh l).su, showR (lvlQ nu inh l t), to_, t, ti, if mv = false ∨ lvlQ nu inh l t = 0 then t else (fadG nu inh l).stp⟩
theorem mvF_new {nu : Int} {inh : Bool} {l : List Fdr} {t to_ ti : Int} : mvF nu inh l t to_ ti false = ⟨(fadG nu inh l).su, showR (lvlQ nu inh l t), to_, t, ti, t⟩ := by unfold mvF; rw [if_pos (.inl rfl)]
theorem mvF_zero {nu : Int} {inh : Bool} {l : List Fdr} {t to_ ti : Int} (h : lvlQ nu inh l t = 0) : mvF nu inh l t to_ ti true = ⟨(fadG nu inh l).su, showR (lvlQ nu inh l t), to_, t, ti, t⟩ := by unfold mvF; rw [if_pos (.inr h)]
theorem mvF_on {nu : Int} {inh : Bool} {l : List Fdr} {t to_ ti : Int} (h : ¬ lvlQ nu inh l t = 0) : mvF nu inh l t to_ ti true = ⟨(fadG nu inh l).su, showR (lvlQ nu inh l t), to_, t, ti, (fadG nu inh l).stp⟩ := by unfold mvF; rw [if_neg (fun g => g.elim (fun g => absurd g (by decide)) h)]
/-- Whether a movement is in range. -/
def mvIn (t to_ ti : Int) : Prop := ((0 ≤ t ∧ t ≤ 10000000) ∧ (0 ≤ ti ∧ ti ≤ 10000000)) ∧ (0 ≤ to_ ∧ to_ ≤ 65535)
instance (t to_ ti : Int) : Decidable (mvIn t to_ ti) := by unfold mvIn; exact inferInstance
theorem fuE_ok {l : List Fdr} (h : ∀ j, j < l.length → (1 ≤ (fdv l j).su ∧ (fdv l j).su ≤ 1048576) ∧ fgE (fdv l j) = 0 ∧ (0 ≤ (fdv l j).stp ∧ (fdv l j).stp ≤ 10000000) ∧ lastF l j < (fdv l j).su) : ∀ (n i : Nat), i + n = l.length → fuE l n i = 0 := by
  intro n
  induction n with
  | zero => intro i _; rfl
  | succ n ih =>
    intro i hi
    obtain ⟨h1, h2, h3, h4⟩ := h i (by omega)
    rw [fuE_go (by omega) h2 (by omega) (by omega)]
    exact ih (i + 1) (by omega)
theorem facE_ok {l : List Fdr} (h : FacOk l) : facE l = 0 := by
  rw [facE_few (by have := h.few; omega)]
  refine fuE_ok (fun j hj => ⟨h.su j hj, h.gl j hj, h.stp j hj, ?_⟩) _ 0 (by omega)
  cases j with
  | zero => rw [lastF_zero]; have := (h.su 0 hj).1; omega
  | succ j => rw [lastF_succ]; exact h.ord (j + 1) hj j (by omega)
/-- Where a number belongs in sorted numbers, and whether it is there. -/
structure Belongs (c : Nat → Int) (n : Nat) (nu : Int) (i : Nat) (hit : Bool) : Prop where
  le : i ≤ n
  bef : ∀ j, j < i → c j < nu
  yes : hit = true → i < n ∧ c i = nu
  no : hit = false → ∀ j, i ≤ j → j < n → nu < c j
  aft : ∀ j, i < j → j < n → nu < c j
theorem halved_belongs {c : Nat → Int} {n i : Nat} {nu : Int} (hs : ∀ j, j < n → ∀ k, k < j → c k < c j) (h : Halved (fun k => c k - nu) n i) : Belongs c n nu i (decide (i < n ∧ c i - nu = 0)) := by
  obtain ⟨h1, h2, h3⟩ := h
  dsimp only at h2 h3
  have hb : ∀ j, j < i → c j < nu := fun j hj => by
    have h4 := h2 (by omega)
    by_cases e : j = i - 1
    · subst e; omega
    · have := hs (i - 1) (by omega) j (by omega); omega
  refine ⟨h1, hb, fun e => ?_, fun e j hj hn => ?_, fun j hj hn => ?_⟩
  · have := of_decide_eq_true e; exact ⟨this.1, by omega⟩
  · have e2 := of_decide_eq_false e
    have h4 := h3 (by omega)
    have h5 : ¬ c i - nu = 0 := fun g => e2 ⟨by omega, g⟩
    by_cases e3 : j = i
    · subst e3; omega
    · have := hs j hn i (by omega); omega
  · have h4 := h3 (by omega)
    have := hs j hn i hj; omega
theorem Belongs.uniq {c : Nat → Int} {n i j : Nat} {nu : Int} {a b : Bool} (h : Belongs c n nu i a) (g : Belongs c n nu j b) : i = j ∧ a = b := by
  have e : i = j := by
    rcases Nat.lt_trichotomy i j with k | k | k
    · have h1 := g.bef i k
      have h2 := g.le
      cases a
      · have := h.no rfl i (Nat.le_refl _) (by omega); omega
      · have := (h.yes rfl).2; omega
    · exact k
    · have h1 := h.bef j k
      have h2 := h.le
      cases b
      · have := g.no rfl j (Nat.le_refl _) (by omega); omega
      · have := (g.yes rfl).2; omega
  subst e
  refine ⟨rfl, ?_⟩
  cases a <;> cases b <;> try rfl
  · have h1 := g.yes rfl
    have := h.no rfl i (Nat.le_refl _) h1.1; omega
  · have h1 := h.yes rfl
    have := g.no rfl i (Nat.le_refl _) h1.1; omega
/-- The elements of a list with one put in. -/
theorem get_ins {α : Type} {l : List α} {i : Nat} {hit : Bool} {x : α} (hi : i ≤ l.length) (j : Nat) : (insL l i hit x)[j]? = if j < i then l[j]? else if j = i then some x else l[(if hit then j else j - 1)]? := by
  unfold insL
  by_cases h1 : j < i
  · rw [if_pos h1, List.getElem?_append_left (by rw [List.length_take]; omega), List.getElem?_take, if_pos h1]
  · rw [if_neg h1, List.getElem?_append_right (by rw [List.length_take]; omega), List.length_take, show j - min i l.length = j - i by omega]
    by_cases h2 : j = i
    · subst h2; rw [if_pos rfl, Nat.sub_self, List.getElem?_cons_zero]
    · rw [if_neg h2, show j - i = (j - i - 1) + 1 by omega, List.getElem?_cons_succ, List.getElem?_drop]
      congr 1
      cases hit
      · simp only [Bool.false_eq_true, if_false]; omega
      · simp only [if_true]; omega
theorem ins_len {α : Type} {l : List α} {i : Nat} {hit : Bool} {x : α} (hi : i ≤ l.length) (hh : hit = true → i < l.length) : (insL l i hit x).length = l.length + (if hit then 0 else 1) := by
  cases hit
  · rw [insL_len_miss hi]; rfl
  · rw [insL_len_hit (hh rfl)]; rfl
theorem fdv_ins {l : List Fdr} {i : Nat} {hit : Bool} {x : Fdr} (hi : i ≤ l.length) (j : Nat) : fdv (insL l i hit x) j = if j < i then fdv l j else if j = i then x else fdv l (if hit then j else j - 1) := by
  unfold fdv
  rw [get_ins hi]
  split
  · rfl
  · split
    · rfl
    · rfl
theorem fadG_ins {l : List Fdr} {i : Nat} {hit inh : Bool} {x : Fdr} {nu : Int} (hb : Belongs (fun k => (fdv l k).su) l.length nu i hit) (hx : x.su = nu) : fadG nu inh (insL l i hit x) = x := by
  have hl := ins_len (x := x) hb.le (fun e => (hb.yes e).1)
  have h1 : i < (insL l i hit x).length := by
    rw [hl]
    have := hb.le
    cases hit
    · simp; omega
    · have := (hb.yes rfl).1; simp; omega
  have h2 : fdv (insL l i hit x) i = x := by rw [fdv_ins hb.le, if_neg (by omega), if_pos rfl]
  rw [fadG_at h1 (by rw [h2, hx]) (fun j hj => by rw [fdv_ins hb.le, if_pos hj]; have := hb.bef j hj; omega), h2]
theorem fadG_su (nu : Int) (inh : Bool) (l : List Fdr) : (fadG nu inh l).su = nu := by
  unfold fadG
  cases h : l.find? (fun f => f.su == nu) with
  | none => cases inh <;> rfl
  | some f => have := List.find?_some h; simpa using this
theorem lvlQ_range {nu : Int} {inh : Bool} {l : List Fdr} (h : FacOk l) (t : Int) : 0 ≤ lvlQ nu inh l t ∧ lvlQ nu inh l t ≤ ((65535 : Int) : Rat) := fadL_range t (fadG_fg h)
theorem mvF_su (nu : Int) (inh : Bool) (l : List Fdr) (t to_ ti : Int) (mv : Bool) : (mvF nu inh l t to_ ti mv).su = nu := fadG_su nu inh l
theorem mvF_stp {nu : Int} {inh : Bool} {l : List Fdr} {t to_ ti : Int} {mv : Bool} (h : FacOk l) (hm : mvIn t to_ ti) : 0 ≤ (mvF nu inh l t to_ ti mv).stp ∧ (mvF nu inh l t to_ ti mv).stp ≤ 10000000 := by
  show 0 ≤ (if mv = false ∨ lvlQ nu inh l t = 0 then t else (fadG nu inh l).stp) ∧ (if mv = false ∨ lvlQ nu inh l t = 0 then t else (fadG nu inh l).stp) ≤ 10000000
  split
  · exact hm.1.1
  · rcases fadG_or nu inh l with ⟨i, hi, e⟩ | e
    · rw [e]; exact h.stp i hi
    · rw [e]; cases inh <;> (show (0 : Int) ≤ 0 ∧ (0 : Int) ≤ 10000000; decide)
theorem mvF_level {nu : Int} {inh : Bool} {l : List Fdr} {t to_ ti : Int} {mv : Bool} {i : Nat} {hit : Bool} (hb : Belongs (fun k => (fdv l k).su) l.length nu i hit) (t2 : Int) : lvlQ nu inh (insL l i hit (mvF nu inh l t to_ ti mv)) t2 = glV (lvlQ nu inh l t) to_ t ti t2 := by
  unfold lvlQ
  rw [fadG_ins hb (mvF_su _ _ _ _ _ _ _)]
  show glV (valR (showR (lvlQ nu inh l t))) to_ t ti t2 = _
  rw [valR_showR]; rfl
theorem mvF_then {nu : Int} {inh : Bool} {l : List Fdr} {t to_ ti : Int} {mv : Bool} {i : Nat} {hit : Bool} (hb : Belongs (fun k => (fdv l k).su) l.length nu i hit) (h : 0 < ti) : lvlQ nu inh (insL l i hit (mvF nu inh l t to_ ti mv)) t = lvlQ nu inh l t := by
  rw [mvF_level hb]; exact glV_start (by omega)
end Lum
