/-
  The reference of layer 1 (integer): divided.
-/
import Derived.Test.YtnjaikomoljmjaaGreatDoorRef7
set_option linter.unusedVariables false
set_option linter.unusedSimpArgs false
namespace Lum
open Go.Lib (decDigits itoa)
theorem dec_snoc (r d : Nat) (hr : r ≠ 0) (hd : d < 10) : decDigits (10 * r + d) = decDigits r ++ [UInt8.ofNat (48 + d)] := by
  rw [dec_big (by omega)]
  congr 2
  · congr 1; omega
  · congr 3; omega
theorem dec_eq_zero (r : Nat) : decDigits r = [48] ↔ r = 0 := by
  rw [← dec_zero]; exact ⟨fun h => dec_inj h, fun h => by rw [h]⟩
theorem dec_len_mono {m n : Nat} (h : m ≤ n) : (decDigits m).length ≤ (decDigits n).length := by
  rcases Nat.lt_or_ge (decDigits n).length (decDigits m).length with h1 | h1
  · have := dec_len_lt h1; omega
  · exact h1
theorem dec_len_ten {R n : Nat} (h : R < 10 * n) : (decDigits R).length ≤ (decDigits n).length + 1 := by
  refine (dec_length_lt R _ (by omega)).2 ?_
  have := (dec_length_lt n _ (dec_length_pos n)).1 (Nat.le_refl _)
  rw [Nat.pow_succ]; omega
theorem div_step (Q n r d R j P : Nat) (h : Q * n + r = P) (hR : R = 10 * r + d) (hj : R - j * n < n) (hj2 : j * n ≤ R) : (Q * 10 + j) * n + (R - j * n) = 10 * P + d := by
  have : (Q * 10 + j) * n = 10 * (Q * n) + j * n := by rw [Nat.add_mul]; congr 1; rw [Nat.mul_assoc, Nat.mul_comm 10 n, ← Nat.mul_assoc, Nat.mul_comm (Q * n) 10]
  omega
end Lum
namespace Go.Proofs.YtnjaikomoljmjaaGreatDoor
open Go.RowKit Lum
open Go.Lib (decDigits itoa)
attribute [local go_sem] bs_get bs_extract_end bs_extract_from bs_extract bs_append

set_option maxHeartbeats 4000000 in
set_option maxRecDepth 20000 in
theorem r1_divided (m n : Nat) (w : World) (hm : (decDigits m).length ≤ 20000) (hn : (decDigits n).length ≤ 20000) (hn0 : 0 < n) :
    Calls Tryz.prog 168 #[.string ⟨(decDigits m).toArray⟩, .string ⟨(decDigits n).toArray⟩] w fun e w' =>
      e = .returned (.tuple #[.string ⟨(decDigits (m / n)).toArray⟩, .string ⟨(decDigits (m % n)).toArray⟩]) ∧ Below w.heap.size w w' := by
  obtain ⟨i0, hi, hz0, hz1, hz2⟩ := info_parts info_u8
  have hdm := dec_digits m
  have hnm := natOf_dec m
  generalize hae : decDigits m = a at *
  have HDM := Lib.hid hdm; clear hdm
  have HNM := Lib.hid hnm; clear hnm
  have HAE := Lib.hid hae; clear hae
  go_enter Tryz.func168, Tryz.ntmps168
  go_wp2
  go_loopw [6, 7, 8, 9] (fun v rs q _ wr => ∃ (p : Option Addr) (cc i Q r : Nat), v = .slice p (outD Q).length cc ∧ rs = .string ⟨(decDigits r).toArray⟩ ∧ q = .int .i64 i ∧ i ≤ a.length ∧ r < n ∧ Hid (Q * n + r = natOf (a.take i)) ∧ (outD Q).length ≤ i ∧
    Hid (OwnN .u8 w.heap.size 5 wr p cc ((outD Q).map (·.toNat))) ∧ Below w.heap.size w wr) (fun _ _ q _ _ => a.length - (intOf q).toNat)
  case atStart =>
    exact ⟨none, 0, 0, 0, 0, rfl, by rw [dec_zero], rfl, by omega, hn0, (show _ = _ by simp [natOf]), by simp [outD], OwnN.nil _ _ _ _, Below.refl _ _⟩
  case round =>
    obtain ⟨p, cc, i, Q, r, rfl, rfl, rfl, hil, hr, HQ, hlo, HO, hb⟩ := hrel
    by_cases h1 : i < a.length
    · have hdg := (isDig_iff a[i]).1 (by have := HDM.out; rw [List.all_eq_true] at this; exact this _ (List.getElem_mem h1))
      have hde := dig_eq ((isDig_iff a[i]).2 hdg)
      have hnt := natOf_take a i h1
      have hone : (a.drop i).take 1 = [a[i]] := by rw [List.drop_eq_getElem_cons h1]; rfl
      obtain ⟨d, hdd⟩ : ∃ d, d = a[i].toNat - 48 := ⟨_, rfl⟩
      rw [← hdd] at hde hnt
      have hd10 : d < 10 := by omega
      rw [hde] at hone
      clear hdd hde hdg
      have HNT := Lib.hid hnt; clear hnt
      have hR : 10 * r + d < 10 * n := by omega
      obtain ⟨R, hRe⟩ : ∃ R, R = 10 * r + d := ⟨_, rfl⟩
      rw [← hRe] at hR
      have hcase : (decDigits r = [48] ∧ (a.drop i).take 1 = decDigits R) ∨ ((decDigits r == [48]) = false ∧ (a.drop i).take 1 = [UInt8.ofNat (48 + d)] ∧ decDigits r ++ [UInt8.ofNat (48 + d)] = decDigits R) := by
        by_cases h0 : r = 0
        · subst h0
          left; refine ⟨dec_zero, ?_⟩
          rw [hone, hRe, show 10 * 0 + d = d by omega, dec_small hd10]
        · right
          refine ⟨?_, hone, by rw [hRe, dec_snoc r d h0 hd10]⟩
          rw [beq_eq_false_iff_ne]; exact fun h => h0 ((dec_eq_zero r).1 h)
      have HRE := Lib.hid hRe; clear hRe hone
      have hrl := dec_len_mono (Nat.le_of_lt hr)
      have hrl2 : (decDigits r).length ≤ 20000 := by omega
      clear hrl
      have hRl := dec_len_ten hR
      have HRL := Lib.hid hRl; clear hRl
      rcases hcase with ⟨h0, hone⟩ | ⟨h0, hone, hsn⟩
      all_goals
        first | (have HSN := Lib.hid hsn; clear hsn) | (have HSN := trivial)
        go_wp2
        clear h0 hone
        go_loopw [7, 9] (fun rs q wi => ∃ (j : Nat), rs = .string ⟨(decDigits (R - j * n)).toArray⟩ ∧ q = .int .u8 (48 + j : Nat) ∧ Hid (j * n ≤ R) ∧ j ≤ 9 ∧ Hid (OwnN .u8 w.heap.size 5 wi p cc ((outD Q).map (·.toNat))) ∧ Below w.heap.size w wi) (fun _ q _ => 58 - (intOf q).toNat)
        case atStart =>
          refine ⟨0, ?_, rfl, (show _ ≤ _ by omega), by omega, HO, hb⟩
          first | (simp; done) | exact val_str (by have := HSN.out; simp at this ⊢; exact this)
        case round =>
          obtain ⟨j, rfl, rfl, hj, hj9, HOj, hbj⟩ := hrel
          have hcl := dec_len_mono (Nat.sub_le R (j * n))
          have hcl2 : (decDigits (R - j * n)).length ≤ 40000 := by have := HRL.out; omega
          have hmi := r1_compare (R - j * n) n wr (by omega) (by omega)
          have HMI := Lib.hid hmi; clear hmi hcl
          by_cases hge : n ≤ R - j * n
          · have hcm : cmpN (R - j * n) n = 0 ∨ cmpN (R - j * n) n = 1 := by unfold cmpN; split <;> (try split) <;> omega
            have hcm2 : (0 : Int) ≤ cmpN (R - j * n) n := by omega
            clear hcm
            have hj10 : j + 1 ≤ 9 := by
              have : (j + 1) * n ≤ R := by rw [Nat.add_mul]; omega
              rcases Nat.lt_or_ge 9 (j + 1) with h | h
              · have := Nat.mul_le_mul_right n h; omega
              · exact h
            have hmm := fun W => r1_minus (R - j * n) n W (by omega) (by omega) hge
            have he : R - j * n - n = R - (j + 1) * n := by rw [Nat.add_mul]; omega
            rw [he] at hmm
            have hj2 : (j + 1) * n ≤ R := by rw [Nat.add_mul]; omega
            have HJ2 := Lib.hid hj2
            have HMM := Lib.hid hmm; clear hmm he hj2
            clear hge
            generalize cmpN (R - j * n) n = cmp at *
            go_wp2_with (first | (go_at_call 140; refine HMI.out.mono ?_; rintro e w3 ⟨rfl, hb3⟩) | (go_at_call 141; refine (HMM.out _).mono ?_; rintro e w4 ⟨rfl, hb4⟩))
            go_roundw
            case rel => exact ⟨j + 1, rfl, val_int (by omega), HJ2.out, hj10, (HOj.out.keep hb3).keep hb4, (hbj.trans (hb3.mono hbj.size)).trans (hb4.mono (Nat.le_trans hbj.size hb3.size))⟩
            case measure => simp [intOf]; omega
          · have hcm : cmpN (R - j * n) n = -1 := by unfold cmpN; rw [if_pos (by omega)]
            have hRn : R - j * n < n := by omega
            have hstep := div_step Q n r d R j _ HQ.out HRE.out hRn hj.out
            rw [← HNT.out] at hstep
            have HST := Lib.hid hstep; clear hstep hge
            have HRN := Lib.hid hRn; clear hRn
            by_cases hj0 : j = 0
            · have hj0' : ((48 : Int) + (j : Int) != 48) = false := by simp [hj0]
              by_cases hQ0 : Q = 0
              · have hl0 : (outD Q).length = 0 := by rw [hQ0]; rfl
                have hy := outD_no Q j hj0 hQ0
                have HY := Lib.hid hy
                have HJ0 := Lib.hid hj0
                clear hy hj0 hQ0
                go_wp2_with (go_at_call 140; refine HMI.out.mono ?_; rintro e w3 ⟨rfl, hb3⟩)
                go_roundw
                case rel =>
                  refine ⟨p, cc, i + 1, Q * 10 + j, R - j * n, ?_, rfl, by go_num, by omega, HRN.out, (show _ = _ by rw [HST.out]), ?_, ?_, hbj.trans (hb3.mono hbj.size)⟩
                  · rw [HY.out]; simp [hl0]
                  · rw [HY.out]; omega
                  · show OwnN _ _ _ _ _ _ _
                    rw [HY.out]; exact HOj.out.keep hb3
                case measure => simp [intOf]; omega
              · have hl0 : 0 < (outD Q).length := by
                  have := mt (outD_nil Q).1 hQ0
                  cases h : outD Q with
                  | nil => exact absurd h this
                  | cons => simp
                have hy := outD_yes Q j (by omega) (.inr hQ0)
                have HY := Lib.hid hy
                clear hy hj0 hQ0
                go_wp2_with (first | (go_at_call 140; refine HMI.out.mono ?_; rintro e w3 ⟨rfl, hb3⟩; have hO3 := HOj.out.keep hb3; have hbt := hbj.trans (hb3.mono hbj.size); have hbs := hbt.size) | (at_builtin; refine wpList_appN rfl _ _ 133 rfl .u8 w.heap.size 5 i0 (.int .u8 0) 1 Tryz.underlying133 hi hz0 hz1 hz2 rfl (by decide) p cc ((outD Q).map (·.toNat)) _ (48 + j) _ (by omega) (by rw [List.length_map]; rfl) hO3 rfl (by rw [List.length_map]; omega) hbs ?_; rintro p2 c2 w2 hO2 hb2))
                go_roundw
                case rel =>
                  refine ⟨p2, c2, i + 1, Q * 10 + j, R - j * n, ?_, rfl, by go_num, by omega, HRN.out, (show _ = _ by rw [HST.out]), ?_, ?_, hbt.trans hb2⟩
                  · rw [HY.out]; simp
                  · rw [HY.out]; simp; omega
                  · show OwnN _ _ _ _ _ _ _
                    rw [HY.out, List.map_append, show [UInt8.ofNat (48 + j)].map (·.toNat) = [48 + j] by rw [List.map_cons, List.map_nil, dig_toNat (by omega)]]
                    exact hO2
                case measure => simp [intOf]; omega
            · have hj0' : ((48 : Int) + (j : Int) != 48) = true := by simp; omega
              have hy := outD_yes Q j (by omega) (.inl hj0)
              have HY := Lib.hid hy
              clear hy
              go_wp2_with (first | (go_at_call 140; refine HMI.out.mono ?_; rintro e w3 ⟨rfl, hb3⟩; have hO3 := HOj.out.keep hb3; have hbt := hbj.trans (hb3.mono hbj.size); have hbs := hbt.size) | (at_builtin; refine wpList_appN rfl _ _ 133 rfl .u8 w.heap.size 5 i0 (.int .u8 0) 1 Tryz.underlying133 hi hz0 hz1 hz2 rfl (by decide) p cc ((outD Q).map (·.toNat)) _ (48 + j) _ (by omega) (by rw [List.length_map]; rfl) hO3 rfl (by rw [List.length_map]; omega) hbs ?_; rintro p2 c2 w2 hO2 hb2))
              go_roundw
              case rel =>
                refine ⟨p2, c2, i + 1, Q * 10 + j, R - j * n, ?_, rfl, by go_num, by omega, HRN.out, (show _ = _ by rw [HST.out]), ?_, ?_, hbt.trans hb2⟩
                · rw [HY.out]; simp
                · rw [HY.out]; simp; omega
                · show OwnN _ _ _ _ _ _ _
                  rw [HY.out, List.map_append, show [UInt8.ofNat (48 + j)].map (·.toNat) = [48 + j] by rw [List.map_cons, List.map_nil, dig_toNat (by omega)]]
                  exact hO2
              case measure => simp [intOf]; omega
    · obtain rfl : i = a.length := by omega
      have hq := HQ.out
      rw [List.take_of_length_le (Nat.le_refl _), HNM.out] at hq
      have hQm : Q = m / n := by
        rw [← hq, Nat.add_comm, Nat.add_mul_div_right _ _ hn0, Nat.div_eq_of_lt hr]; omega
      have hrm : r = m % n := by
        rw [← hq, Nat.add_comm, Nat.add_mul_mod_self_right, Nat.mod_eq_of_lt hr]
      have HQM := Lib.hid hQm
      have HRM := Lib.hid hrm
      have hO := HO.out.nats
      clear hq hQm hrm HO HQ
      by_cases hQ0 : Q = 0
      · have hl0 : (outD Q).length = 0 := by rw [hQ0]; rfl
        have HQ0 := Lib.hid hQ0; clear hQ0
        go_wp2
        go_ret2
        exact ⟨by rw [← HQM.out, ← HRM.out, HQ0.out, dec_zero]; rfl, hb⟩
      · have ho : outD Q = decDigits Q := by rw [outD, if_neg hQ0]
        rw [ho] at hO
        rw [List.length_map] at hO
        have hl0 : (((outD Q).length : Int) == 0) = false := by
          have := dec_length_pos Q
          rw [beq_eq_false_iff_ne, ho]; omega
        have kc := conv_nats (P := Tryz.prog) 133 9 5 Tryz.underlying133 Tryz.underlying5 Tryz.underlying9 wr p cc (decDigits Q) hO (dec_ne Q)
        rw [← ho] at kc
        have HOE := Lib.hid ho
        clear hO ho hQ0
        go_wp2
        go_ret2
        exact ⟨by rw [← HQM.out, ← HRM.out, HOE.out]; rfl, hb⟩
end Go.Proofs.YtnjaikomoljmjaaGreatDoor
