/-
  The reference of layer 1 (integer): Order, Sum, Diff, Product on texts of integers.
-/
import Derived.Test.YtnjaikomoljmjaaGreatDoorRef8
set_option linter.unusedVariables false
set_option linter.unusedSimpArgs false
namespace Lum
open Go.Lib (decDigits itoa)
/-- How many digits an integer has. -/
def dl (x : Int) : Nat := (decDigits x.natAbs).length
def sgnZ (x : Int) : Int := if x = 0 then 0 else if x < 0 then -1 else 1
theorem itoa_eq_zero (x : Int) : itoa x = [48] ↔ x = 0 := by
  rw [← itoa_zero]; exact ⟨fun h => itoa_inj h, fun h => by rw [h]⟩
theorem sgnT_itoa (x : Int) : sgnT (itoa x) = sgnZ x := by
  unfold sgnT sgnZ
  rw [minus_itoa]
  by_cases h0 : x = 0
  · rw [if_pos h0, if_pos ((itoa_eq_zero x).2 h0)]
  · rw [if_neg h0, if_neg (mt (itoa_eq_zero x).1 h0)]
    by_cases h1 : x < 0 <;> simp [h1]
theorem negT_itoa (x : Int) : negT (itoa x) = itoa (-x) := by
  unfold negT
  rw [minus_itoa]
  by_cases h0 : x = 0
  · subst h0; rw [if_pos itoa_zero]; rfl
  · rw [if_neg (mt (itoa_eq_zero x).1 h0)]
    by_cases h1 : x < 0
    · rw [if_pos (by simpa using h1)]
      unfold itoa
      rw [if_pos h1, if_neg (by omega), List.tail_cons]
      congr 1; omega
    · rw [if_neg (by simpa using h1)]
      unfold itoa
      rw [if_neg h1, if_pos (by omega)]
      congr 2; omega
theorem signedT_dec (n : Nat) (b : Bool) : signedT (decDigits n) b = itoa (if b then -(n : Int) else n) := by
  unfold signedT
  by_cases h0 : n = 0
  · subst h0; rw [dec_zero]; cases b <;> simp [itoa_zero]
  · have : (decDigits n != [48]) = true := by rw [bne_iff_ne]; exact mt (dec_eq_zero n).1 h0
    rw [this]
    cases b
    · simp [itoa_nat]
    · simp [itoa_negsucc n (by omega)]
theorem itoa_len_dl (x : Int) : (itoa x).length ≤ dl x + 1 := itoa_len x
theorem dl_len (x : Int) : dl x ≤ (itoa x).length := by
  unfold dl; rw [← body_itoa]; exact body_le _
theorem dl_pos (x : Int) : 1 ≤ dl x := dec_length_pos _
theorem dl_neg (x : Int) : dl (-x) = dl x := by unfold dl; rw [Int.natAbs_neg]
theorem dl_mono {x y : Int} (h : x.natAbs ≤ y.natAbs) : dl x ≤ dl y := dec_len_mono h
theorem dl_lt (x : Int) : x.natAbs < 10 ^ dl x := (dec_length_lt _ _ (dec_length_pos _)).1 (Nat.le_refl _)
theorem dl_le {x : Int} {k : Nat} (hk : 1 ≤ k) : dl x ≤ k ↔ x.natAbs < 10 ^ k := dec_length_lt _ _ hk
theorem dl_mul (x y : Int) : dl (x * y) ≤ dl x + dl y := by
  have h1 := dl_pos x
  rw [dl_le (by omega), Int.natAbs_mul, Nat.pow_add]
  exact Nat.mul_lt_mul_of_lt_of_lt (dl_lt x) (dl_lt y)
theorem dl_add (x y : Int) (k : Nat) (hx : dl x ≤ k) (hy : dl y ≤ k) : dl (x + y) ≤ k + 1 := by
  have h1 := dl_pos x
  have h2 := (dl_le (by omega)).1 hx
  have h3 := (dl_le (by omega)).1 hy
  rw [dl_le (by omega), Nat.pow_succ]
  omega
theorem plus_len (m n k : Nat) (hm : (decDigits m).length ≤ k) (hn : (decDigits n).length ≤ k) : (decDigits (m + n)).length ≤ k + 1 := by
  have := dec_length_pos m
  rw [dec_length_lt _ _ (by omega)] at *
  rw [Nat.pow_succ]; omega
theorem times_len (m n j k : Nat) (hm : (decDigits m).length ≤ j) (hn : (decDigits n).length ≤ k) : (decDigits (m * n)).length ≤ j + k := by
  have h1 := dec_length_pos m
  have h2 := dec_length_pos n
  rw [dec_length_lt _ _ (by omega)] at *
  rw [Nat.pow_add]
  exact Nat.mul_lt_mul_of_lt_of_lt hm hn
theorem short_abs (x : Int) (h : (itoa x).length ≤ 17) : x.natAbs < 100000000000000000 := by
  have h1 := dl_len x
  have := (dl_le (x := x) (k := 17) (by omega)).1 (by omega)
  simpa using this
/-- The sign of a - b. -/
def cmpZ (x y : Int) : Int := if x < y then -1 else if y < x then 1 else 0
end Lum
namespace Go.Proofs.YtnjaikomoljmjaaGreatDoor
open Go.RowKit Lum
open Go.Lib (decDigits itoa)
attribute [local go_sem] bs_get bs_extract_end bs_extract_from bs_extract bs_append

theorem r1_body_z (z : Int) (w : World) :
    Calls Tryz.prog 130 #[.string ⟨(itoa z).toArray⟩] w fun e w' => e = .returned (.string ⟨(decDigits z.natAbs).toArray⟩) ∧ w = w' := by
  rw [← body_itoa]; exact r1_body _ _
theorem r1_magnitude_z (z : Int) (w : World) :
    Calls Tryz.prog 143 #[.string ⟨(itoa z).toArray⟩] w fun e w' => e = .returned (.string ⟨(decDigits z.natAbs).toArray⟩) ∧ w = w' := by
  rw [← body_itoa]; exact r1_magnitude _ _
theorem r1_digits_z (z : Int) (w : World) :
    Calls Tryz.prog 101 #[.string ⟨(itoa z).toArray⟩] w fun e w' => e = .returned (.int .i64 (dl z : Int)) ∧ w = w' := by
  have := r1_digits (itoa z) w
  rw [body_itoa] at this; exact this
theorem r1_sign_z (z : Int) (w : World) :
    Calls Tryz.prog 100 #[.string ⟨(itoa z).toArray⟩] w fun e w' => e = .returned (.int .i64 (sgnZ z)) ∧ w = w' := by
  rw [← sgnT_itoa]; exact r1_sign _ _
theorem r1_negated_z (z : Int) (w : World) (hz : dl z ≤ 20000) :
    Calls Tryz.prog 134 #[.string ⟨(itoa z).toArray⟩] w fun e w' => e = .returned (.string ⟨(itoa (-z)).toArray⟩) ∧ w = w' := by
  rw [← negT_itoa]; exact r1_negated _ _ (by have := itoa_len_dl z; omega)
theorem r1_signed_n (n : Nat) (b : Bool) (w : World) (hn : (decDigits n).length ≤ 100000) :
    Calls Tryz.prog 138 #[.string ⟨(decDigits n).toArray⟩, .bool b] w fun e w' => e = .returned (.string ⟨(itoa (if b then -(n : Int) else n)).toArray⟩) ∧ w = w' := by
  rw [← signedT_dec]; exact r1_signed _ _ _ (by omega)

set_option maxHeartbeats 1000000 in
theorem r1_order (x y : Int) (w : World) (hx : dl x ≤ 40000) (hy : dl y ≤ 40000) :
    Calls Tryz.prog 103 #[.string ⟨(itoa x).toArray⟩, .string ⟨(itoa y).toArray⟩] w fun e w' => e = .returned (.int .i64 (cmpZ x y)) ∧ Below w.heap.size w w' := by
  have sx := r1_sign_z x
  have sy := r1_sign_z y
  have bx := r1_body_z x
  have b_y := r1_body_z y
  have c1 := fun W => r1_compare x.natAbs y.natAbs W (by unfold dl at hx; omega) (by unfold dl at hy; omega)
  have c2 := fun W => r1_compare y.natAbs x.natAbs W (by unfold dl at hy; omega) (by unfold dl at hx; omega)
  by_cases h1 : sgnZ x = sgnZ y
  · have h1' : (sgnZ x != sgnZ y) = false := by simp [h1]
    have H1 := Lib.hid h1
    clear h1
    by_cases h2 : sgnZ x < 0
    · have e : cmpN y.natAbs x.natAbs = cmpZ x y := by
        have := H1.out; unfold cmpN cmpZ; unfold sgnZ at this h2; repeat' split
        all_goals (simp_all <;> omega)
      have HE := Lib.hid e; clear e
      go_enter Tryz.func103, Tryz.ntmps103
      go_wp2_with fail
      refine (sx _).mono ?_; rintro e w' ⟨rfl, rfl⟩
      go_wp2_with fail
      refine (sy _).mono ?_; rintro e w' ⟨rfl, rfl⟩
      go_wp2_with fail
      refine (b_y _).mono ?_; rintro e w' ⟨rfl, rfl⟩
      go_wp2_with fail
      refine (bx _).mono ?_; rintro e w' ⟨rfl, rfl⟩
      go_wp2_with fail
      refine (c2 _).mono ?_; rintro e w' ⟨rfl, hb⟩
      go_wp2_with fail
      go_ret
      exact ⟨ret_int HE.out, hb⟩
    · have e : cmpN x.natAbs y.natAbs = cmpZ x y := by
        have := H1.out; unfold cmpN cmpZ; unfold sgnZ at this h2; repeat' split
        all_goals (simp_all <;> omega)
      have HE := Lib.hid e; clear e
      go_enter Tryz.func103, Tryz.ntmps103
      go_wp2_with fail
      refine (sx _).mono ?_; rintro e w' ⟨rfl, rfl⟩
      go_wp2_with fail
      refine (sy _).mono ?_; rintro e w' ⟨rfl, rfl⟩
      go_wp2_with fail
      refine (bx _).mono ?_; rintro e w' ⟨rfl, rfl⟩
      go_wp2_with fail
      refine (b_y _).mono ?_; rintro e w' ⟨rfl, rfl⟩
      go_wp2_with fail
      refine (c1 _).mono ?_; rintro e w' ⟨rfl, hb⟩
      go_wp2_with fail
      go_ret
      exact ⟨ret_int HE.out, hb⟩
  · have h1' : (sgnZ x != sgnZ y) = true := by simpa using h1
    by_cases h2 : sgnZ x < sgnZ y
    all_goals
      have e : cmpZ x y = if sgnZ x < sgnZ y then -1 else 1 := by
        unfold cmpZ; unfold sgnZ at *; repeat' split
        all_goals (simp_all <;> omega)
      first | rw [if_pos h2] at e | rw [if_neg h2] at e
      have HE := Lib.hid e; clear e h1
      go_enter Tryz.func103, Tryz.ntmps103
      go_wp2_with fail
      refine (sx _).mono ?_; rintro e w' ⟨rfl, rfl⟩
      go_wp2_with fail
      refine (sy _).mono ?_; rintro e w' ⟨rfl, rfl⟩
      go_wp2_with fail
      go_ret
      exact ⟨ret_int HE.out.symm, Below.refl _ _⟩

/-- The sum by the magnitudes. -/
theorem sum_same (x y : Int) (b : Bool) (hx : decide (x < 0) = b) (hy : decide (y < 0) = b) : (if b then -((x.natAbs + y.natAbs : Nat) : Int) else ((x.natAbs + y.natAbs : Nat) : Int)) = x + y := by
  cases b <;> simp at hx hy ⊢ <;> omega
theorem sgnZ_neg (x : Int) : decide (sgnZ x < 0) = decide (x < 0) := by
  unfold sgnZ; repeat' split
  all_goals simp_all

set_option maxHeartbeats 2000000 in
theorem r1_sum (x y : Int) (w : World) (hx : dl x ≤ 20000) (hy : dl y ≤ 20000) :
    Calls Tryz.prog 93 #[.string ⟨(itoa x).toArray⟩, .string ⟨(itoa y).toArray⟩] w fun e w' => e = .returned (.string ⟨(itoa (x + y)).toArray⟩) ∧ Below w.heap.size w w' := by
  by_cases hs : (itoa x).length ≤ 17 ∧ (itoa y).length ≤ 17
  · obtain ⟨h1, h2⟩ := hs
    have a1 := short_abs x h1
    have a2 := short_abs y h2
    have d1 : decide ((itoa x).length ≤ 17) = true := by simpa using h1
    have d2 : decide ((itoa y).length ≤ 17) = true := by simpa using h2
    go_enter Tryz.func93, Tryz.ntmps93
    go_wp2_with (first | (go_at_call 136; refine (r1_short _ _).mono ?_; rintro e w' ⟨rfl, rfl⟩) | (go_at_call 137; refine (r1_number _ _ (by assumption)).mono ?_; rintro e w' ⟨rfl, rfl⟩) | (go_at_call 97; refine (r1_whole _ _ (by omega) (by omega)).mono ?_; rintro e w' ⟨rfl, hb⟩))
    go_ret
    exact ⟨rfl, hb⟩
  · have sx := r1_sign_z x
    have sy := r1_sign_z y
    have bx := r1_body_z x
    have b_y := r1_body_z y
    have hdx : (decDigits x.natAbs).length ≤ 20000 := hx
    have hdy : (decDigits y.natAbs).length ≤ 20000 := hy
    have hcase : decide ((itoa x).length ≤ 17) = false ∨ (decide ((itoa x).length ≤ 17) = true ∧ decide ((itoa y).length ≤ 17) = false) := by
      by_cases h1 : (itoa x).length ≤ 17
      · right; exact ⟨by simpa using h1, by simpa using fun h2 => hs ⟨h1, h2⟩⟩
      · left; simpa using h1
    clear hs
    have nx := sgnZ_neg x
    have ny := sgnZ_neg y
    have NX := Lib.hid nx
    have NY := Lib.hid ny
    clear nx ny
    by_cases hsame : decide (x < 0) = decide (y < 0)
    · have hsum := sum_same x y (decide (x < 0)) rfl hsame.symm
      have hlen := plus_len _ _ 20000 hdx hdy
      have hS := fun W => r1_signed_n (x.natAbs + y.natAbs) (decide (x < 0)) W (by omega)
      rw [hsum] at hS
      have HS := Lib.hid hS; clear hS hsum hlen
      have d3 : decide (sgnZ x < 0) = decide (x < 0) := NX.out
      have d4 : decide (sgnZ y < 0) = decide (x < 0) := NY.out.trans hsame.symm
      clear hsame
      generalize decide (x < 0) = b at *
      rcases hcase with h1 | ⟨h1, h2⟩
      all_goals
        go_enter Tryz.func93, Tryz.ntmps93
        go_wp2_with (first | (go_at_call 136; refine (r1_short _ _).mono ?_; rintro e w' ⟨rfl, rfl⟩))
        refine (bx _).mono ?_; rintro e w' ⟨rfl, rfl⟩
        go_wp2_with fail
        refine (b_y _).mono ?_; rintro e w' ⟨rfl, rfl⟩
        go_wp2_with fail
        refine (sx _).mono ?_; rintro e w' ⟨rfl, rfl⟩
        go_wp2_with fail
        refine (sy _).mono ?_; rintro e w' ⟨rfl, rfl⟩
        go_wp2_with fail
        refine (r1_plus _ _ _ (by omega) (by omega)).mono ?_; rintro e w1 ⟨rfl, hb⟩
        go_wp2_with fail
        refine (HS.out _).mono ?_; rintro e w2 ⟨rfl, rfl⟩
        go_wp2_with fail
        go_ret
        exact ⟨rfl, hb⟩
    · have hns : decide (y < 0) = !decide (x < 0) := by
        cases h1 : decide (x < 0) <;> cases h2 : decide (y < 0) <;> simp_all
      have d3 : decide (sgnZ x < 0) = decide (x < 0) := NX.out
      have d4 : decide (sgnZ y < 0) = !decide (x < 0) := NY.out.trans hns
      have hvals : (y.natAbs ≤ x.natAbs → (if decide (x < 0) then -((x.natAbs - y.natAbs : Nat) : Int) else ((x.natAbs - y.natAbs : Nat) : Int)) = x + y) ∧
          (x.natAbs ≤ y.natAbs → (if !decide (x < 0) then -((y.natAbs - x.natAbs : Nat) : Int) else ((y.natAbs - x.natAbs : Nat) : Int)) = x + y) := by
        clear hsame d3 d4 NX NY
        cases h1 : decide (x < 0) <;> simp_all <;> omega
      have HV := Lib.hid hvals; clear hvals hsame hns
      generalize decide (x < 0) = b at *
      by_cases hge : y.natAbs ≤ x.natAbs
      · have hS := fun W => r1_signed_n (x.natAbs - y.natAbs) b W (Nat.le_trans (dec_len_mono (Nat.sub_le _ _)) (by omega))
        rw [HV.out.1 hge] at hS
        have HS := Lib.hid hS; clear hS
        have hcm : cmpN x.natAbs y.natAbs = 0 ∨ cmpN x.natAbs y.natAbs = 1 := by unfold cmpN; split <;> (try split) <;> omega
        have hcm2 : (0 : Int) ≤ cmpN x.natAbs y.natAbs := by omega
        clear hcm
        rcases hcase with h1 | ⟨h1, h2⟩
        all_goals
          cases b
          all_goals
            go_enter Tryz.func93, Tryz.ntmps93
            go_wp2_with (first | (go_at_call 136; refine (r1_short _ _).mono ?_; rintro e w' ⟨rfl, rfl⟩))
            refine (bx _).mono ?_; rintro e w' ⟨rfl, rfl⟩
            go_wp2_with fail
            refine (b_y _).mono ?_; rintro e w' ⟨rfl, rfl⟩
            go_wp2_with fail
            refine (sx _).mono ?_; rintro e w' ⟨rfl, rfl⟩
            go_wp2_with fail
            refine (sy _).mono ?_; rintro e w' ⟨rfl, rfl⟩
            go_wp2_with fail
            refine (r1_compare _ _ _ (by omega) (by omega)).mono ?_; rintro e w1 ⟨rfl, hb⟩
            go_wp2_with fail
            refine (r1_minus _ _ _ (by omega) (by omega) hge).mono ?_; rintro e w2 ⟨rfl, hb2⟩
            go_wp2_with fail
            refine (HS.out _).mono ?_; rintro e w3 ⟨rfl, rfl⟩
            go_wp2_with fail
            go_ret
            exact ⟨rfl, hb.trans (hb2.mono hb.size)⟩
      · have hge2 : x.natAbs ≤ y.natAbs := by omega
        have hS := fun W => r1_signed_n (y.natAbs - x.natAbs) (!b) W (Nat.le_trans (dec_len_mono (Nat.sub_le _ _)) (by omega))
        rw [HV.out.2 hge2] at hS
        have HS := Lib.hid hS; clear hS
        have hcm : cmpN x.natAbs y.natAbs = -1 := by unfold cmpN; rw [if_pos (by omega)]
        rcases hcase with h1 | ⟨h1, h2⟩
        all_goals
          cases b
          all_goals
            go_enter Tryz.func93, Tryz.ntmps93
            go_wp2_with (first | (go_at_call 136; refine (r1_short _ _).mono ?_; rintro e w' ⟨rfl, rfl⟩))
            refine (bx _).mono ?_; rintro e w' ⟨rfl, rfl⟩
            go_wp2_with fail
            refine (b_y _).mono ?_; rintro e w' ⟨rfl, rfl⟩
            go_wp2_with fail
            refine (sx _).mono ?_; rintro e w' ⟨rfl, rfl⟩
            go_wp2_with fail
            refine (sy _).mono ?_; rintro e w' ⟨rfl, rfl⟩
            go_wp2_with fail
            refine (r1_compare _ _ _ (by omega) (by omega)).mono ?_; rintro e w1 ⟨rfl, hb⟩
            go_wp2_with fail
            refine (r1_minus _ _ _ (by omega) (by omega) hge2).mono ?_; rintro e w2 ⟨rfl, hb2⟩
            go_wp2_with fail
            refine (HS.out _).mono ?_; rintro e w3 ⟨rfl, rfl⟩
            go_wp2_with fail
            go_ret
            exact ⟨rfl, hb.trans (hb2.mono hb.size)⟩

set_option maxHeartbeats 1000000 in
theorem r1_diff (x y : Int) (w : World) (hx : dl x ≤ 20000) (hy : dl y ≤ 20000) :
    Calls Tryz.prog 171 #[.string ⟨(itoa x).toArray⟩, .string ⟨(itoa y).toArray⟩] w fun e w' => e = .returned (.string ⟨(itoa (x - y)).toArray⟩) ∧ Below w.heap.size w w' := by
  have hs := fun W => r1_sum x (-y) W hx (by rw [dl_neg]; exact hy)
  rw [← Int.sub_eq_add_neg] at hs
  have HS := Lib.hid hs; clear hs
  go_enter Tryz.func171, Tryz.ntmps171
  go_wp2_with (go_at_call 134; refine (r1_negated_z _ _ hy).mono ?_; rintro e w' ⟨rfl, rfl⟩)
  refine (HS.out _).mono ?_; rintro e w2 ⟨rfl, hb⟩
  go_wp2_with fail
  go_ret
  exact ⟨rfl, hb⟩
end Go.Proofs.YtnjaikomoljmjaaGreatDoor
