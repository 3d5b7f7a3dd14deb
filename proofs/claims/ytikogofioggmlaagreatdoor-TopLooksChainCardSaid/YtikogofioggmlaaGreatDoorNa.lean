/-
  The four cues are right; the chain of changes, in the words of the law.
-/
import Derived.Test.YtikogofioggmlaaGreatDoorLy
set_option linter.unusedVariables false
set_option linter.unusedSimpArgs false
namespace Lum
open Go Go.RowKit Go.Shelf
open Go.Lib (decDigits itoa)
theorem lsR_inc {num pri : Int} {L : List CuL} (h : LsR num pri (L.map CuL.c)) : ∀ (d i : Nat) (hd : i + d + 1 < L.length), val5 (L[i]'(by omega)).c.nu < val5 (L[i + d + 1]'hd).c.nu
  | 0, i, hd => by
    have := lsR_asc h (k := i + 1) hd (by omega)
    simpa using this
  | d + 1, i, hd => by
    have h1 := lsR_inc h d i (by omega)
    have h2 := lsR_asc h (k := i + (d + 1) + 1) hd (by omega)
    have h3 : (L[i + (d + 1) + 1 - 1]'(by omega)) = L[i + d + 1]'(by omega) := by congr 1
    rw [h3] at h2
    exact Nat.lt_trans h1 h2
/-- The place of a cue's own number. -/
theorem ix_at {num pri : Int} {L : List CuL} (h : LsR num pri (L.map CuL.c)) {k : Nat} (hk : k < L.length) : ixOf (fun x : CuL => x.c.nu == (L[k]'hk).c.nu) L = (k : Int) :=
  ixOf_at hk (by simp) (fun j hj => by
    obtain ⟨d, rfl⟩ : ∃ d, k = j + d + 1 := ⟨k - j - 1, by omega⟩
    have h1 := lsR_inc h d j hk
    rw [beq_eq_false_iff_ne]
    intro e
    rw [e] at h1
    exact Nat.lt_irrefl _ h1)
theorem fourC_ok : LsR 1 0 fourC where
  n0 := by decide
  n1 := by decide
  p0 := by decide
  p1 := by decide
  few := by decide
  ok := by
    have hT : ∀ t ∈ [(⟨0, 0, 0, 0, 0, 0⟩ : Tm)], TmR t := by
      intro t ht
      rw [List.mem_singleton] at ht
      subst ht
      exact ⟨⟨by decide, by decide⟩, ⟨by decide, by decide⟩, ⟨by decide, by decide⟩, ⟨by decide, by decide⟩, ⟨by decide, by decide⟩, ⟨by decide, by decide⟩⟩
    have hL : LabR [] := ⟨by decide, by simp⟩
    have hN : ∀ c : Cu, c.fo = -1 → c.li = [] → c.lo = 0 → NxtR c := fun c h1 h2 h3 => ⟨.inl h1, fun h => absurd h2 h, by rw [h3]; decide, by rw [h3]; decide, fun h => by rw [h3] at h; exact absurd h (by decide)⟩
    intro c hc
    simp only [fourC, List.mem_cons, List.not_mem_nil, or_false] at hc
    rcases hc with rfl | rfl | rfl | rfl
    all_goals exact ⟨⟨by decide, by decide, by decide, by decide, by decide, by decide, by decide, by decide, by decide⟩, hL, ⟨by decide, by decide, by decide, by decide, by unfold AscK; decide⟩, ⟨by decide, by decide, hT⟩, by decide, hN _ rfl rfl rfl⟩
  asc := by
    intro i h
    have h : i + 1 < 4 := h
    match i, h with
    | 0, _ => show val5 cuF1.nu < val5 cuF2.nu; decide
    | 1, _ => show val5 cuF2.nu < val5 cuF3.nu; decide
    | 2, _ => show val5 cuF3.nu < val5 cuF4.nu; decide
def look2 : List Ent := [⟨1, 0, 0, 200⟩, ⟨1, 1, 0, 7⟩, ⟨2, 0, -1, 0⟩]
def look3 : List Ent := [⟨1, 0, -1, 0⟩, ⟨1, 1, 0, 9⟩, ⟨2, 0, -1, 0⟩]
theorem four_look2 : lookL fourC 2 = look2 := by decide +kernel
theorem four_look3 : lookL fourC 3 = look3 := by decide +kernel
theorem four_ix {L : List CuL} (h : L.map CuL.c = fourC) : 4 = L.length ∧ ixOf (fun x : CuL => x.c.nu == [50]) L = ((1 : Nat) : Int) ∧ ixOf (fun x : CuL => x.c.nu == [51]) L = ((2 : Nat) : Int) := by
  have hl : L.length = 4 := by have := congrArg List.length h; rw [List.length_map] at this; exact this
  obtain ⟨a, b, c, d, rfl⟩ : ∃ a b c d, L = [a, b, c, d] := by
    rcases L with _ | ⟨a, _ | ⟨b, _ | ⟨c, _ | ⟨d, _ | ⟨e, r⟩⟩⟩⟩⟩
    · simp at hl
    · simp at hl
    · simp at hl
    · simp at hl
    · exact ⟨a, b, c, d, rfl⟩
    · simp at hl
  · simp only [List.map_cons, List.map_nil, fourC, List.cons.injEq, and_true] at h
    obtain ⟨h1, h2, h3, h4⟩ := h
    have e1 : a.c.nu = [49] := by rw [h1]; rfl
    have e2 : b.c.nu = [50] := by rw [h2]; rfl
    have e3 : c.c.nu = [51] := by rw [h3]; rfl
    refine ⟨rfl, ?_, ?_⟩
    · unfold ixOf; simp [List.findIdx?_cons, e1, e2]
    · unfold ixOf; simp [List.findIdx?_cons, e1, e2, e3]
/-- The parameters in which two looks differ, and the first look with the first k changes made. -/
def chD (cs : List Cu) (a b : Nat) : List (Int × Int) := (footL cs).filter (fun p => decide (valN cs p a ≠ valN cs p b))
def chN (cs : List Cu) (a b k : Nat) : List Ent := (footL cs).map (entK (mixV (fun p => valN cs p a) (fun p => valN cs p b) ((chD cs a b).take k)))
theorem chN_len (cs : List Cu) (a b k : Nat) : (chN cs a b k).length = (footL cs).length := List.length_map _
theorem chD_len (cs : List Cu) (a b : Nat) : (chD cs a b).length ≤ (footL cs).length := List.length_filter_le _ _
theorem chN_start (cs : List Cu) (a b : Nat) : lookL cs a = chN cs a b 0 := chain_start _ _ _ _
theorem chN_end (cs : List Cu) (a b : Nat) : chN cs a b (chD cs a b).length = lookL cs b := chain_end rfl
theorem difL_chD (cs : List Cu) (a b : Nat) : difL (lookL cs a) (lookL cs b) = (chD cs a b).map (entK (fun p => valN cs p b)) := difL_map _ _ _
theorem difL_len (cs : List Cu) (a b : Nat) : (difL (lookL cs a) (lookL cs b)).length = (chD cs a b).length := by rw [difL_chD, List.length_map]
theorem chN_step {cs : List Cu} {a b k : Nat} (hk : k < (difL (lookL cs a) (lookL cs b)).length) :
    ∃ i, ∃ hi : i < (chN cs a b k).length, ixOf (fun y : Ent => y.ky == ((difL (lookL cs a) (lookL cs b))[k]'hk).ky) (chN cs a b k) = (i : Int) ∧ (chN cs a b k)[i]'hi ≠ (difL (lookL cs a) (lookL cs b))[k]'hk ∧ (chN cs a b k).set i ((difL (lookL cs a) (lookL cs b))[k]'hk) = chN cs a b (k + 1) := by
  have hk2 : k < (chD cs a b).length := by rw [difL_len] at hk; exact hk
  have hx : (difL (lookL cs a) (lookL cs b))[k]'hk = entK (fun p => valN cs p b) ((chD cs a b)[k]'hk2) := by
    rw [List.getElem_of_eq (difL_chD cs a b) hk, List.getElem_map]
  rw [hx]
  obtain ⟨i, hi, h1, h2, h3, h4⟩ := chain_step (f := fun p => valN cs p a) (g := fun p => valN cs p b) (footL_asc cs) (D := chD cs a b) rfl hk2
  have hi2 : i < (chN cs a b k).length := by rw [chN_len]; exact hi
  have hget : ∀ m (hm : m < (chN cs a b k).length) (hm2 : m < (footL cs).length), (chN cs a b k)[m]'hm = entK (mixV (fun p => valN cs p a) (fun p => valN cs p b) ((chD cs a b).take k)) ((footL cs)[m]'hm2) := fun m hm hm2 => by
    exact List.getElem_map _
  refine ⟨i, hi2, ixOf_at hi2 ?_ (fun j hj => ?_), ?_, h4⟩
  · rw [hget i hi2 hi, entK_ky, entK_ky, h1, beq_self_eq_true]
  · rw [hget j _ (Nat.lt_trans hj hi), entK_ky, entK_ky, beq_eq_false_iff_ne]
    exact h2 j hj
  · rw [hget i hi2 hi]
    exact h3
end Lum
