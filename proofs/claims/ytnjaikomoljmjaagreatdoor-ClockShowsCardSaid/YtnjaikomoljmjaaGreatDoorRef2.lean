/-
  The reference of layer 1 (integer): Check, number, Whole, compare.
-/
import Derived.Test.YtnjaikomoljmjaaGreatDoorRef1
import Derived.Deep.QuietTactic
import Derived.BigQuiet
set_option linter.unusedVariables false
set_option linter.unusedSimpArgs false
namespace Lum
theorem all_take (l : Txt) (k : Nat) (h : k < l.length) (ha : (l.take k).all isDig = true) (hd : isDig l[k] = true) : (l.take (k + 1)).all isDig = true := by
  rw [List.take_succ_eq_append_getElem h, List.all_append, ha]; simpa using hd
theorem body_le (l : Txt) : (body l).length ≤ l.length := by
  unfold body; split
  · rw [List.length_tail]; omega
  · exact Nat.le_refl _
theorem not_all (l : Txt) (k : Nat) (h : k < l.length) (hd : (l[k].toNat : Int) < 48 ∨ 57 < (l[k].toNat : Int)) : l.all isDig = false := by
  rw [List.all_eq_false]
  refine ⟨l[k], List.getElem_mem h, ?_⟩
  rw [isDig_iff]; omega
end Lum
namespace Go.Proofs.YtnjaikomoljmjaaGreatDoor
open Go.RowKit Lum
open Go.Lib (decDigits itoa)
attribute [local go_sem] bs_get bs_extract_end bs_extract_from bs_extract bs_append

set_option maxHeartbeats 400000 in
theorem r1_check (l : Txt) (w : World) (hl : l.length ≤ 1000000) :
    Calls Tryz.prog 71 #[.string ⟨l.toArray⟩] w fun e w' => e = .returned (.int .i64 (intCheck l)) ∧ w = w' := by
  have hbl : (body l).length ≤ 1000000 := Nat.le_trans (body_le l) hl
  have hB := r1_body l w
  have hI : intCheck l = if body l = [] ∨ ((body l).head? = some 48 ∧ 1 < l.length) then 3
      else if (body l).all isDig = false then 3 else if 4096 < (body l).length then 23 else 0 := rfl
  generalize body l = b at *
  have HI := Lib.hid hI; clear hI
  by_cases e0 : b = []
  · subst e0
    go_enter Tryz.func71, Tryz.ntmps71
    go_wp2_with (go_at_call 130; refine hB.mono ?_; rintro e w' ⟨rfl, rfl⟩)
    go_ret
    exact ⟨ret_int (by rw [HI.out]; rfl), rfl⟩
  · have h0 : 0 < b.length := by cases b with
      | nil => exact absurd rfl e0
      | cons => simp
    have hn : ((b.length : Int) == 0) = false := by simp; omega
    have hh := head_get b h0
    have HH := Lib.hid hh; clear hh
    have h48 : ((b[0].toNat : Int) = 48) ↔ b.head? = some 48 := by
      rw [HH.out]; constructor
      · intro h; congr 1; apply UInt8.toNat_inj.1; show b[0].toNat = 48; omega
      · intro h; rw [Option.some.inj h]; rfl
    have H48 := Lib.hid h48; clear h48
    by_cases h12 : (b[0].toNat : Int) = 48 ∧ (1 : Int) < (l.length : Int)
    · obtain ⟨h1, h2⟩ := h12
      go_enter Tryz.func71, Tryz.ntmps71
      go_wp2_with (go_at_call 130; refine hB.mono ?_; rintro e w' ⟨rfl, rfl⟩)
      go_ret
      exact ⟨ret_int (by rw [HI.out, if_pos (.inr ⟨H48.out.1 h1, by omega⟩)]), rfl⟩
    · have hI2 : intCheck l = if b.all isDig = false then 3 else if 4096 < b.length then 23 else 0 := by
        rw [HI.out, if_neg]
        rintro (h | h)
        · exact e0 h
        · exact h12 ⟨H48.out.2 h.1, by omega⟩
      have HI2 := Lib.hid hI2; clear hI2
      have hcase : ((b[0].toNat : Int) = 48 ∧ decide ((1 : Int) < (l.length : Int)) = false) ∨ ((b[0].toNat : Int) == 48) = false := by
        by_cases h1 : (b[0].toNat : Int) = 48
        · exact .inl ⟨h1, by simpa using fun h => h12 ⟨h1, h⟩⟩
        · exact .inr (by simpa using h1)
      clear h12
      rcases hcase with ⟨h1, h2⟩ | h1
      all_goals
        go_enter Tryz.func71, Tryz.ntmps71
        go_wp2_with (go_at_call 130; refine hB.mono ?_; rintro e w' ⟨rfl, rfl⟩)
        go_loop [4] (fun i => ∃ k : Nat, k ≤ b.length ∧ i = .int .i64 k ∧ (b.take k).all isDig = true) (fun i => b.length - (intOf i).toNat)
        case atStart => exact ⟨0, Nat.zero_le _, rfl, by simp⟩
        case round =>
          obtain ⟨k, hk, rfl, ha⟩ := hrel
          have HA := Lib.hid ha; clear ha
          by_cases hlt : k < b.length
          · by_cases hdg : isDig b[k] = true
            · have hx := (isDig_iff _).1 hdg
              have HD := Lib.hid hdg; clear hdg
              go_wp2
              go_round
              case rel => exact ⟨k + 1, by omega, by go_num, all_take b k hlt HA.out HD.out⟩
              case measure => simp [intOf]; omega
            · have hx : ¬ (48 ≤ b[k].toNat ∧ b[k].toNat ≤ 57) := fun h => hdg ((isDig_iff _).2 h)
              clear hdg
              go_wp2
              all_goals go_ret
              all_goals exact ⟨ret_int (by rw [HI2.out, if_pos (not_all b k hlt (by omega))]), rfl⟩
          · have hk2 : b.take k = b := List.take_of_length_le (by omega)
            have hall : b.all isDig = true := by rw [← hk2]; exact HA.out
            have HL := Lib.hid hall; clear hall hk2
            go_wp2
            all_goals go_ret
            all_goals refine ⟨ret_int ?_, rfl⟩
            · rw [HI2.out, if_neg (by rw [HL.out]; simp), if_pos (by omega)]
            · rw [HI2.out, if_neg (by rw [HL.out]; simp), if_neg (by omega)]

/-- The number that digits spell, behind k of them. -/
theorem natOf_take (l : Txt) (k : Nat) (h : k < l.length) : natOf (l.take (k + 1)) = 10 * natOf (l.take k) + (l[k].toNat - 48) := by
  rw [List.take_succ_eq_append_getElem h, natOf_snoc]
theorem natOf_take_lt (l : Txt) (h : l.all isDig = true) (k : Nat) (hk : k ≤ 17) : natOf (l.take k) < 100000000000000000 := by
  have h1 : (l.take k).all isDig = true := by
    rw [List.all_eq_true] at h ⊢
    exact fun c hc => h c (List.mem_of_mem_take hc)
  refine Nat.lt_of_lt_of_le (natOf_lt _ h1) (Nat.le_trans (Nat.pow_le_pow_right (by omega) (?_ : _ ≤ 17)) (by decide))
  simp; omega

set_option maxHeartbeats 400000 in
theorem r1_number (z : Int) (w : World) (hz : (itoa z).length ≤ 17) :
    Calls Tryz.prog 137 #[.string ⟨(itoa z).toArray⟩] w fun e w' => e = .returned (.int .i64 z) ∧ w = w' := by
  have hb := body_itoa z
  have hB := r1_body (itoa z) w
  have hS := r1_sign (itoa z)
  have hbl := body_le (itoa z)
  have hd := dec_digits z.natAbs
  have hn := natOf_dec z.natAbs
  rw [hb] at hB hbl
  have hs : sgnT (itoa z) < 0 ↔ z < 0 := by
    unfold sgnT
    rw [minus_itoa]
    by_cases h0 : z = 0
    · subst h0; simp [itoa_zero]
    · rw [if_neg (fun h => h0 (itoa_inj (h.trans itoa_zero.symm)))]
      by_cases h1 : z < 0 <;> simp [h1]
  generalize itoa z = l at *
  generalize decDigits z.natAbs = b at *
  have HN := Lib.hid hn; clear hn
  have HD := Lib.hid hd; clear hd
  clear hb
  go_enter Tryz.func137, Tryz.ntmps137
  go_wp2_with (go_at_call 130; refine hB.mono ?_; rintro e w' ⟨rfl, rfl⟩)
  go_loop [3, 5] (fun n i => ∃ k : Nat, k ≤ b.length ∧ i = .int .i64 k ∧ n = .int .i64 (natOf (b.take k))) (fun _ i => b.length - (intOf i).toNat)
  case atStart => exact ⟨0, Nat.zero_le _, rfl, rfl⟩
  case round =>
    obtain ⟨k, hk, rfl, rfl⟩ := hrel
    by_cases hlt : k < b.length
    · have h1 := natOf_take b k hlt
      have h2 := natOf_take_lt b HD.out k (by omega)
      have h3 := (isDig_iff b[k]).1 (by have := HD.out; rw [List.all_eq_true] at this; exact this _ (List.getElem_mem hlt))
      have H1 := Lib.hid h1; clear h1
      go_wp2
      go_round
      case rel => exact ⟨k + 1, by omega, by go_num, val_int (by rw [H1.out]; omega)⟩
      case measure => simp [intOf]; omega
    · have hk2 : b.take k = b := List.take_of_length_le (by omega)
      rw [hk2]
      have h2 := natOf_take_lt b HD.out k (by omega)
      rw [hk2] at h2
      clear hk2
      go_wp2_with (go_at_call 100; refine (hS _).mono ?_; rintro e w' ⟨rfl, rfl⟩)
      all_goals go_ret
      all_goals refine ⟨ret_int ?_, rfl⟩
      all_goals (rw [HN.out]; omega)
end Go.Proofs.YtnjaikomoljmjaaGreatDoor
