/-
  The reference of layer 1 (integer): the functions on texts, without words.
-/
import Derived.Test.YtnjaikomoljmjaaGreatDoorKit
set_option linter.unusedVariables false
set_option linter.unusedSimpArgs false
namespace Lum
open Go.Lib (decDigits itoa)
/-- What Check returns. -/
def intCheck (l : Txt) : Int :=
  if body l = [] ∨ ((body l).head? = some 48 ∧ 1 < l.length) then 3
  else if (body l).all isDig = false then 3 else if 4096 < (body l).length then 23 else 0
def sgnT (l : Txt) : Int := if l = [48] then 0 else if minus l then -1 else 1
def negT (l : Txt) : Txt := if l = [48] then l else if minus l then l.tail else 45 :: l
def signedT (l : Txt) (neg : Bool) : Txt := if neg && l != [48] then 45 :: l else l
theorem head_get (l : Txt) (h : 0 < l.length) : l.head? = some l[0] := by cases l with
  | nil => simp at h
  | cons c r => rfl
theorem toNat_45 (c : UInt8) : (((c.toNat : Int) == 45) = true) ↔ c = 45 := by
  rw [beq_iff_eq]; constructor
  · intro h; apply UInt8.toNat_inj.1; show c.toNat = 45; omega
  · rintro rfl; rfl
theorem body_yes (l : Txt) (h : 0 < l.length) (e : ((l[0].toNat : Int) == 45) = true) : body l = l.tail := by
  rw [body, if_pos (by rw [head_get l h, (toNat_45 _).1 e])]
theorem minus_yes (l : Txt) (h : 0 < l.length) (e : ((l[0].toNat : Int) == 45) = true) : minus l = true := by
  rw [minus, head_get l h, (toNat_45 _).1 e]; rfl
theorem minus_no (l : Txt) (h : 0 < l.length) (e : ((l[0].toNat : Int) == 45) = false) : minus l = false := by
  rw [minus, head_get l h]
  have : l[0] ≠ 45 := fun e2 => by rw [e2] at e; simp at e
  simpa using this
theorem minus_nil (l : Txt) (h : ¬ 0 < l.length) : minus l = false := by
  have : l = [] := by cases l with
    | nil => rfl
    | cons => simp at h
  subst this; rfl
theorem body_no (l : Txt) (h : minus l = false) : body l = l := by
  simp only [minus, beq_eq_false_iff_ne] at h
  rw [body, if_neg h]
end Lum
namespace Go.Proofs.YtnjaikomoljmjaaGreatDoor
open Go.RowKit Lum
attribute [local go_sem] bs_get bs_extract_end bs_extract_from bs_extract bs_append

set_option maxHeartbeats 400000 in
theorem r1_body (l : Txt) (w : World) :
    Calls Tryz.prog 130 #[.string ⟨l.toArray⟩] w fun e w' => e = .returned (.string ⟨(body l).toArray⟩) ∧ w = w' := by
  go_enter Tryz.func130, Tryz.ntmps130
  go_wp2
  all_goals go_ret
  all_goals refine ⟨?_, rfl⟩
  · exact ret_str (by rw [body_yes l ‹_› ‹_›, List.take_of_length_le (by simp)])
  · exact ret_str (body_no l (minus_no l ‹_› ‹_›)).symm
  · exact ret_str (body_no l (minus_nil l ‹_›)).symm

set_option maxHeartbeats 400000 in
theorem r1_sign (l : Txt) (w : World) :
    Calls Tryz.prog 100 #[.string ⟨l.toArray⟩] w fun e w' => e = .returned (.int .i64 (sgnT l)) ∧ w = w' := by
  go_enter Tryz.func100, Tryz.ntmps100
  go_wp2
  all_goals go_ret
  all_goals refine ⟨?_, rfl⟩
  · exact ret_int (by rw [sgnT, if_pos (by simp_all)])
  · exact ret_int (by rw [sgnT, if_neg (by simp_all), if_pos (minus_yes l ‹_› ‹_›)])
  · exact ret_int (by rw [sgnT, if_neg (by simp_all), if_neg (by simp [minus_no l ‹_› ‹_›])])
  · exact ret_int (by rw [sgnT, if_neg (by simp_all), if_neg (by simp [minus_nil l ‹_›])])

set_option maxHeartbeats 400000 in
theorem r1_negated (l : Txt) (w : World) (hl : l.length ≤ 1000000) :
    Calls Tryz.prog 134 #[.string ⟨l.toArray⟩] w fun e w' => e = .returned (.string ⟨(negT l).toArray⟩) ∧ w = w' := by
  go_enter Tryz.func134, Tryz.ntmps134
  go_wp2
  all_goals go_ret
  all_goals refine ⟨?_, rfl⟩
  · exact ret_str (by rw [negT, if_pos (by simp_all)])
  · exact ret_str (by rw [negT, if_neg (by simp_all), if_pos (minus_yes l ‹_› ‹_›), List.take_of_length_le (by simp)])
  · exact ret_str (by rw [negT, if_neg (by simp_all), if_neg (by simp [minus_no l ‹_› ‹_›])])
  · exact ret_str (by rw [negT, if_neg (by simp_all), if_neg (by simp [minus_nil l ‹_›])])

set_option maxHeartbeats 400000 in
theorem r1_digits (l : Txt) (w : World) :
    Calls Tryz.prog 101 #[.string ⟨l.toArray⟩] w fun e w' => e = .returned (.int .i64 ((body l).length : Int)) ∧ w = w' := by
  go_enter Tryz.func101, Tryz.ntmps101
  go_wp2_with (go_at_call 130; refine (r1_body _ _).mono ?_; rintro e w' ⟨rfl, rfl⟩)
  go_ret
  exact ⟨rfl, rfl⟩

set_option maxHeartbeats 400000 in
theorem r1_magnitude (l : Txt) (w : World) :
    Calls Tryz.prog 143 #[.string ⟨l.toArray⟩] w fun e w' => e = .returned (.string ⟨(body l).toArray⟩) ∧ w = w' := by
  go_enter Tryz.func143, Tryz.ntmps143
  go_wp2_with (go_at_call 130; refine (r1_body _ _).mono ?_; rintro e w' ⟨rfl, rfl⟩)
  go_ret
  exact ⟨rfl, rfl⟩

set_option maxHeartbeats 400000 in
theorem r1_short (l : Txt) (w : World) :
    Calls Tryz.prog 136 #[.string ⟨l.toArray⟩] w fun e w' => e = .returned (.bool (decide (l.length ≤ 17))) ∧ w = w' := by
  go_enter Tryz.func136, Tryz.ntmps136
  go_wp2
  all_goals go_ret
  exact ⟨ret_bool (by simp; omega), rfl⟩

set_option maxHeartbeats 400000 in
theorem r1_signed (l : Txt) (b : Bool) (w : World) (hl : l.length ≤ 1000000) :
    Calls Tryz.prog 138 #[.string ⟨l.toArray⟩, .bool b] w fun e w' => e = .returned (.string ⟨(signedT l b).toArray⟩) ∧ w = w' := by
  go_enter Tryz.func138, Tryz.ntmps138
  cases b
  all_goals go_wp2
  all_goals go_ret
  all_goals refine ⟨?_, rfl⟩
  · exact ret_str rfl
  · exact ret_str (by have : l ≠ [48] := by simp_all
                      simp [signedT, this])
  · exact ret_str (by have : l = [48] := by simp_all
                      subst this; rfl)
end Go.Proofs.YtnjaikomoljmjaaGreatDoor
