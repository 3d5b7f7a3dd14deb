/-
  The reference of layer 2 (ratio): slash, Top, Bottom, shaped, Check, Checks.
-/
import Derived.Test.YtnjaikomoljmjaaGreatDoorRef11
set_option linter.unusedVariables false
set_option linter.unusedSimpArgs false
namespace Lum
open Go.Lib (decDigits itoa)
theorem canon_iff (b : Txt) : canon b = true ↔ b ≠ [] ∧ b.all isDig = true ∧ (b.head? ≠ some 48 ∨ b = [48]) := by
  simp only [canon, Bool.and_eq_true, Bool.or_eq_true, bne_iff_ne, beq_iff_eq, Bool.not_eq_true', ne_eq, List.isEmpty_eq_false_iff, and_assoc]
theorem intCheck_shaped (l : Txt) : intCheck l = 3 ↔ shaped l = false := by
  have hb : (minus l = true ∧ l.length = (body l).length + 1) ∨ (minus l = false ∧ body l = l) := by
    cases hm : minus l
    · exact .inr ⟨rfl, body_no l hm⟩
    · left; refine ⟨rfl, ?_⟩
      simp only [minus, beq_iff_eq] at hm
      rw [body, if_pos hm, List.length_tail]
      cases l with
      | nil => simp at hm
      | cons => simp
  unfold intCheck shaped
  have hc := canon_iff (body l)
  by_cases h1 : body l = []
  · rw [if_pos (.inl h1)]; simp [canon, h1]
  · by_cases h2 : (body l).all isDig = true
    · by_cases h3 : (body l).head? = some 48
      · by_cases h4 : 1 < l.length
        · rw [if_pos (.inr ⟨h3, h4⟩)]
          simp only [true_iff]
          rcases hb with ⟨h5, h6⟩ | ⟨h5, h6⟩
          · rw [h5, h3]; simp
          · have : canon (body l) = false := by
              rw [Bool.eq_false_iff]; intro h
              rcases (hc.1 h).2.2 with h7 | h7
              · exact h7 h3
              · rw [← h6, h7] at h4; simp at h4
            rw [this]; rfl
        · rw [if_neg (by rintro (h | h); exact h1 h; exact h4 h.2), if_neg (by simp [h2])]
          have h7 : (body l).length ≠ 0 := fun h => h1 (List.eq_nil_of_length_eq_zero h)
          have h8 : minus l = false ∧ body l = l := by
            rcases hb with ⟨h5, h6⟩ | h5
            · omega
            · exact h5
          have h9 : body l = [48] := by
            rw [h8.2] at h3 h7 ⊢
            cases hl : l with
            | nil => rw [hl] at h7; simp at h7
            | cons c r =>
              rw [hl] at h3 h4
              have : r = [] := by cases r with
                | nil => rfl
                | cons => simp at h4
              subst this; simp at h3; rw [h3]
          rw [h9, h8.1]
          simp only [List.length_singleton]
          have : canon [48] = true := by decide
          rw [this]; simp
      · rw [if_neg (by rintro (h | h); exact h1 h; exact h3 h.1), if_neg (by simp [h2])]
        have : canon (body l) = true := hc.2 ⟨h1, h2, .inl h3⟩
        rw [this]
        have h9 : ((body l).head? == some 48) = false := by simpa using h3
        rw [h9]; simp; split <;> simp
    · have h2' : (body l).all isDig = false := by simpa using h2
      have : canon (body l) = false := by
        rw [Bool.eq_false_iff]; intro h; exact h2 (hc.1 h).2.1
      rw [this]
      simp only [h2', if_true, Bool.false_and, iff_true]
      split <;> rfl
theorem hasSlash_len (l : Txt) : (top l).length < l.length ↔ hasSlash l = true := by
  constructor
  · intro h
    cases hs : hasSlash l with
    | true => rfl
    | false => rw [top_noslash l hs] at h; omega
  · intro h
    have := congrArg List.length (split_slash l h)
    simp at this; omega
theorem top_take (l : Txt) : l.take (top l).length = top l := by
  unfold top
  induction l with
  | nil => simp
  | cons c r ih =>
    rw [List.takeWhile_cons]; split
    · simp [ih]
    · simp
theorem bot_drop (l : Txt) (h : hasSlash l = true) : l.drop ((top l).length + 1) = bot l := by
  have e : ∀ t b : Txt, (t ++ 47 :: b).drop (t.length + 1) = b := fun t b => by simp
  exact (congrArg (List.drop ((top l).length + 1)) (split_slash l h)).trans (e _ _)
theorem dec_eq_one (n : Nat) : decDigits n = [49] ↔ n = 1 := by
  have : decDigits 1 = [49] := dec_small (by omega)
  rw [← this]; exact ⟨fun h => dec_inj h, fun h => by rw [h]⟩
theorem itoa_eq_one (n : Int) : itoa n = [49] ↔ n = 1 := by
  rw [← itoa_one]; exact ⟨fun h => itoa_inj h, fun h => by rw [h]⟩
theorem long_dl (z : Int) : long z = decide (4096 < dl z) := rfl
end Lum
namespace Go.Proofs.YtnjaikomoljmjaaGreatDoor
open Go.RowKit Lum
open Go.Lib (decDigits itoa)
attribute [local go_sem] bs_get bs_extract_end bs_extract_from bs_extract bs_append

set_option maxHeartbeats 400000 in
theorem r2_slash (l : Txt) (w : World) (hl : l.length ≤ 1000000) :
    Calls Tryz.prog 99 #[.string ⟨l.toArray⟩] w fun e w' => e = .returned (.int .i64 ((top l).length : Int)) ∧ w = w' := by
  go_enter Tryz.func99, Tryz.ntmps99
  go_wp2
  go_loop [3] (fun i => ∃ k : Nat, k ≤ l.length ∧ i = .int .i64 k ∧ (47 : UInt8) ∉ l.take k) (fun i => l.length - (intOf i).toNat)
  case atStart => exact ⟨0, Nat.zero_le _, rfl, by simp⟩
  case round =>
    obtain ⟨k, hk, rfl, ha⟩ := hrel
    have HA := Lib.hid ha; clear ha
    by_cases hlt : k < l.length
    · by_cases h47 : (l[k].toNat : Int) = 47
      · have hc : l[k] = 47 := by apply UInt8.toNat_inj.1; show l[k].toNat = 47; omega
        have ht : top l = l.take k := by
          have e : l = l.take k ++ 47 :: l.drop (k + 1) := by rw [← hc, List.getElem_cons_drop, List.take_append_drop]
          conv => lhs; rw [e]
          exact takeWhile_ne _ _ HA.out
        have HT := Lib.hid ht; clear ht hc
        go_wp2
        go_ret
        exact ⟨ret_int (by rw [HT.out, List.length_take]; omega), rfl⟩
      · have h47' : ((l[k].toNat : Int) == 47) = false := by simpa using h47
        have hn : (47 : UInt8) ∉ l.take (k + 1) := by
          rw [List.take_succ_eq_append_getElem hlt]
          intro h
          rcases List.mem_append.1 h with h | h
          · exact HA.out h
          · simp at h; rw [← h] at h47; exact h47 rfl
        have HN := Lib.hid hn; clear hn h47
        go_wp2
        go_round
        case rel => exact ⟨k + 1, by omega, by go_num, HN.out⟩
        case measure => simp [intOf]; omega
    · have hk2 : l.take k = l := List.take_of_length_le (by omega)
      have ht : top l = l := takeWhile_all l (by rw [← hk2]; exact HA.out)
      have HT := Lib.hid ht; clear ht hk2
      go_wp2
      go_ret
      exact ⟨ret_int (by rw [HT.out]), rfl⟩

set_option maxHeartbeats 400000 in
theorem r2_top (l : Txt) (w : World) (hl : l.length ≤ 1000000) :
    Calls Tryz.prog 95 #[.string ⟨l.toArray⟩] w fun e w' => e = .returned (.string ⟨(top l).toArray⟩) ∧ w = w' := by
  have h1 : (top l).length ≤ l.length := by rw [← top_take l]; simp; omega
  have h2 := top_take l
  have H2 := Lib.hid h2; clear h2
  have hS := r2_slash l w hl
  generalize hn : (top l).length = n at *
  have HN := Lib.hid hn; clear hn
  go_enter Tryz.func95, Tryz.ntmps95
  go_wp2_with (go_at_call 99; refine hS.mono ?_; rintro e w' ⟨rfl, rfl⟩)
  go_ret
  exact ⟨ret_str H2.out, rfl⟩

set_option maxHeartbeats 400000 in
theorem r2_bottom (l : Txt) (w : World) (hl : l.length ≤ 1000000) :
    Calls Tryz.prog 96 #[.string ⟨l.toArray⟩] w fun e w' => e = .returned (.string ⟨(bot l).toArray⟩) ∧ w = w' := by
  have h1 : (top l).length ≤ l.length := by rw [← top_take l]; simp; omega
  have hS := r2_slash l w hl
  by_cases hs : hasSlash l = true
  · have h2 := (hasSlash_len l).2 hs
    have h3 := bot_drop l hs
    have H3 := Lib.hid h3; clear h3 hs
    generalize hn : (top l).length = n at *
    have HN := Lib.hid hn; clear hn
    have hne : ((n : Int) == (l.length : Int)) = false := by simp; omega
    go_enter Tryz.func96, Tryz.ntmps96
    go_wp2_with (go_at_call 99; refine hS.mono ?_; rintro e w' ⟨rfl, rfl⟩)
    go_ret
    exact ⟨ret_str (by rw [← H3.out, List.take_of_length_le (by simp)]), rfl⟩
  · have hs' : hasSlash l = false := by simpa using hs
    rw [top_noslash l hs'] at hS
    have hb := bot_noslash l hs'
    have HB := Lib.hid hb; clear hb hs hs' h1
    go_enter Tryz.func96, Tryz.ntmps96
    go_wp2_with (go_at_call 99; refine hS.mono ?_; rintro e w' ⟨rfl, rfl⟩)
    go_ret
    exact ⟨ret_str HB.out.symm, rfl⟩

set_option maxHeartbeats 400000 in
theorem r2_shaped (l : Txt) (w : World) (hl : l.length ≤ 1000000) :
    Calls Tryz.prog 98 #[.string ⟨l.toArray⟩] w fun e w' => e = .returned (.bool (shaped l)) ∧ w = w' := by
  have hS := r1_check l w hl
  have hc := intCheck_shaped l
  have he : (intCheck l != 3) = shaped l := by
    cases h : shaped l
    · rw [hc.2 h]; rfl
    · rw [bne_iff_ne]; intro h2; rw [hc.1 h2] at h; cases h
  have HE := Lib.hid he; clear he hc
  go_enter Tryz.func98, Tryz.ntmps98
  go_wp2_with (go_at_call 71; refine hS.mono ?_; rintro e w' ⟨rfl, rfl⟩)
  go_ret
  exact ⟨ret_bool HE.out, rfl⟩
end Go.Proofs.YtnjaikomoljmjaaGreatDoor
