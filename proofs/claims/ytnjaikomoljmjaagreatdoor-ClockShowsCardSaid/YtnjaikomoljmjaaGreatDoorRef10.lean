/-
  The reference of layer 1 (integer): Product, Floor, Rest, Common.
-/
import Derived.Test.YtnjaikomoljmjaaGreatDoorRef9
set_option linter.unusedVariables false
set_option linter.unusedSimpArgs false
namespace Lum
open Go.Lib (decDigits itoa)
theorem dn (m : Nat) : decide ((m : Int) < 0) = false := decide_eq_false (by omega)
theorem dneg (m : Nat) (h : m ≠ 0) : decide (-(m : Int) < 0) = true := decide_eq_true (by omega)
theorem abs_form (x : Int) : ∃ m : Nat, x = m ∨ (x = -(m : Int) ∧ m ≠ 0) := by
  by_cases h : 0 ≤ x
  · exact ⟨x.toNat, .inl (by omega)⟩
  · exact ⟨(-x).toNat, .inr ⟨by omega, by omega⟩⟩
theorem prod_sign (x y : Int) : (if decide (x < 0) != decide (y < 0) then -((x.natAbs * y.natAbs : Nat) : Int) else ((x.natAbs * y.natAbs : Nat) : Int)) = x * y := by
  obtain ⟨m, hm⟩ := abs_form x
  obtain ⟨n, hn⟩ := abs_form y
  rcases hm with rfl | ⟨rfl, hm0⟩ <;> rcases hn with rfl | ⟨rfl, hn0⟩
  · simp only [dn]; simp
  · simp only [dn, dneg n hn0]; simp [Int.mul_neg]
  · simp only [dn, dneg m hm0]; simp [Int.neg_mul]
  · simp only [dneg m hm0, dneg n hn0]; simp [Int.neg_mul, Int.mul_neg]
theorem neg_ediv_nat (m n : Nat) (hn : n ≠ 0) : (-(m : Int)) / (n : Int) = -((m / n : Nat) + (if m % n = 0 then 0 else 1) : Int) := by
  rw [Int.neg_ediv]
  have hd : ((n : Int) ∣ (m : Int)) ↔ m % n = 0 := by rw [Int.natCast_dvd_natCast]; exact Nat.dvd_iff_mod_eq_zero
  have hs : (n : Int).sign = 1 := Int.sign_eq_one_of_pos (by omega)
  rw [hs, Int.natCast_ediv]
  by_cases h : m % n = 0
  · rw [if_pos (hd.2 h), if_pos h]; omega
  · rw [if_neg (mt hd.1 h), if_neg h]; omega
/-- The quotient, rounded down, by the magnitudes. -/
theorem fdiv_abs (x y : Int) (hy : y ≠ 0) : Int.fdiv x y =
    if decide (x < 0) != decide (y < 0) then -((x.natAbs / y.natAbs : Nat) + (if x.natAbs % y.natAbs = 0 then 0 else 1) : Int) else ((x.natAbs / y.natAbs : Nat) : Int) := by
  obtain ⟨m, hm⟩ := abs_form x
  obtain ⟨n, hn⟩ := abs_form y
  have hpos : ∀ a : Int, ∀ k : Nat, k ≠ 0 → a.fdiv (k : Int) = a / (k : Int) := fun a k hk => Int.fdiv_eq_ediv_of_nonneg a (by omega)
  rcases hm with rfl | ⟨rfl, hm0⟩ <;> rcases hn with rfl | ⟨rfl, hn0⟩
  · rw [hpos _ n (by omega)]; simp only [dn]; simp
  · have e := Int.neg_fdiv_neg (-(m : Int)) (n : Int)
    rw [Int.neg_neg] at e
    rw [e, hpos _ n hn0, neg_ediv_nat m n hn0]
    simp only [dn, dneg n hn0]; simp
  · rw [hpos _ n (by omega), neg_ediv_nat m n (by omega)]
    simp only [dn, dneg m hm0]; simp
  · rw [Int.neg_fdiv_neg, hpos _ n hn0]
    simp only [dneg m hm0, dneg n hn0]; simp
/-- .. and by Go's own quotient and remainder. -/
theorem fdiv_go (x y : Int) (hy : y ≠ 0) : Int.fdiv x y = if (x.tmod y != 0) && (decide (x < 0) != decide (y < 0)) then x.tdiv y - 1 else x.tdiv y := by
  rw [fdiv_abs x y hy]
  obtain ⟨m, hm⟩ := abs_form x
  obtain ⟨n, hn⟩ := abs_form y
  have e1 : (m : Int).tdiv n = (m / n : Nat) := by simp
  have e2 : (m : Int).tmod n = (m % n : Nat) := rfl
  have hb : ∀ r : Nat, (((r : Nat) : Int) != 0) = decide (r ≠ 0) := fun r => by
    by_cases h : r = 0
    · subst h; rfl
    · rw [decide_eq_true h, bne_iff_ne]; omega
  have hb2 : ∀ r : Nat, (-((r : Nat) : Int) != 0) = decide (r ≠ 0) := fun r => by
    by_cases h : r = 0
    · subst h; rfl
    · rw [decide_eq_true h, bne_iff_ne]; omega
  rcases hm with rfl | ⟨rfl, hm0⟩ <;> rcases hn with rfl | ⟨rfl, hn0⟩
  · simp only [dn]; simp
  · simp only [dn, dneg n hn0, Int.neg_tdiv, Int.tdiv_neg, Int.neg_tmod, Int.tmod_neg, e1, e2, Int.natAbs_neg, Int.natAbs_natCast, hb, hb2]
    by_cases h : m % n = 0 <;> simp [h] <;> omega
  · simp only [dn, dneg m hm0, Int.neg_tdiv, Int.tdiv_neg, Int.neg_tmod, Int.tmod_neg, e1, e2, Int.natAbs_neg, Int.natAbs_natCast, hb, hb2]
    by_cases h : m % n = 0 <;> simp [h] <;> omega
  · simp only [dneg m hm0, dneg n hn0, Int.neg_tdiv, Int.tdiv_neg, Int.neg_tmod, Int.tmod_neg, e1, e2, Int.natAbs_neg, Int.natAbs_natCast]
    simp
end Lum
namespace Go.Proofs.YtnjaikomoljmjaaGreatDoor
open Go.RowKit Lum
open Go.Lib (decDigits itoa)
attribute [local go_sem] bs_get bs_extract_end bs_extract_from bs_extract bs_append

set_option maxHeartbeats 2000000 in
theorem r1_product (x y : Int) (w : World) (hx : dl x ≤ 20000) (hy : dl y ≤ 20000) :
    Calls Tryz.prog 94 #[.string ⟨(itoa x).toArray⟩, .string ⟨(itoa y).toArray⟩] w fun e w' => e = .returned (.string ⟨(itoa (x * y)).toArray⟩) ∧ Below w.heap.size w w' := by
  have lx := itoa_len_dl x
  have ly := itoa_len_dl y
  by_cases hs : (itoa x).length + (itoa y).length ≤ 17
  · have a1 := dl_len x
    have a2 := dl_len y
    have a3 := dl_mul x y
    have a4 := (dl_le (x := x * y) (k := 17) (by omega)).1 (by omega)
    have b1 : (itoa x).length ≤ 17 := by omega
    have b2 : (itoa y).length ≤ 17 := by omega
    have n1 := fun W => r1_number x W b1
    have n2 := fun W => r1_number y W b2
    obtain ⟨p, hp⟩ : ∃ p, x * y = p := ⟨_, rfl⟩
    have hp2 : -100000000000000000 ≤ p ∧ p ≤ 100000000000000000 := by rw [hp] at a4; omega
    obtain ⟨hp3, hp4⟩ := hp2
    clear a1 a2 a3 a4 b1 b2
    go_enter Tryz.func94, Tryz.ntmps94
    go_wp2_with fail
    refine (n1 _).mono ?_; rintro e w' ⟨rfl, rfl⟩
    go_wp2_with fail
    refine (n2 _).mono ?_; rintro e w' ⟨rfl, rfl⟩
    go_wp2_with fail
    refine (r1_whole _ _ (by omega) (by omega)).mono ?_; rintro e w' ⟨rfl, hb⟩
    go_wp2_with fail
    go_ret
    exact ⟨by rw [hp]; rfl, hb⟩
  · have sx := r1_sign_z x
    have sy := r1_sign_z y
    have bx := r1_body_z x
    have b_y := r1_body_z y
    have hdx : (decDigits x.natAbs).length ≤ 20000 := hx
    have hdy : (decDigits y.natAbs).length ≤ 20000 := hy
    have nx := sgnZ_neg x
    have ny := sgnZ_neg y
    have hlen := times_len _ _ _ _ hdx hdy
    have hS := fun W => r1_signed_n (x.natAbs * y.natAbs) (decide (x < 0) != decide (y < 0)) W (by omega)
    rw [prod_sign] at hS
    have HS := Lib.hid hS; clear hS hlen
    generalize decide (x < 0) = b at *
    generalize decide (y < 0) = c at *
    cases b <;> cases c
    all_goals
      go_enter Tryz.func94, Tryz.ntmps94
      go_wp2_with fail
      refine (bx _).mono ?_; rintro e w' ⟨rfl, rfl⟩
      go_wp2_with fail
      refine (b_y _).mono ?_; rintro e w' ⟨rfl, rfl⟩
      go_wp2_with fail
      refine (r1_times _ _ _ (by omega) (by omega)).mono ?_; rintro e w1 ⟨rfl, hb⟩
      go_wp2_with fail
      refine (sx _).mono ?_; rintro e w' ⟨rfl, rfl⟩
      go_wp2_with fail
      refine (sy _).mono ?_; rintro e w' ⟨rfl, rfl⟩
      go_wp2_with fail
      refine (HS.out _).mono ?_; rintro e w2 ⟨rfl, rfl⟩
      go_wp2_with fail
      go_ret
      exact ⟨rfl, hb⟩

set_option maxHeartbeats 2000000 in
theorem r1_floor (x y : Int) (w : World) (hx : dl x ≤ 19000) (hy : dl y ≤ 19000) (hy0 : y ≠ 0) :
    Calls Tryz.prog 135 #[.string ⟨(itoa x).toArray⟩, .string ⟨(itoa y).toArray⟩] w fun e w' => e = .returned (.string ⟨(itoa (Int.fdiv x y)).toArray⟩) ∧ Below w.heap.size w w' := by
  by_cases hs : (itoa x).length ≤ 17 ∧ (itoa y).length ≤ 17
  · obtain ⟨h1, h2⟩ := hs
    have a1 := short_abs x h1
    have a2 := short_abs y h2
    have n1 := fun W => r1_number x W h1
    have n2 := fun W => r1_number y W h2
    have d1 : decide ((itoa x).length ≤ 17) = true := by simpa using h1
    have d2 : decide ((itoa y).length ≤ 17) = true := by simpa using h2
    have x1 : -100000000000000000 ≤ x := by omega
    have x2 : x ≤ 100000000000000000 := by omega
    have hg := fdiv_go x y hy0
    have HG := Lib.hid hg
    clear a1 a2 h1 h2 hg
    go_enter Tryz.func135, Tryz.ntmps135
    go_wp2_with (first | (go_at_call 136; refine (r1_short _ _).mono ?_; rintro e w' ⟨rfl, rfl⟩))
    refine (n1 _).mono ?_; rintro e w' ⟨rfl, rfl⟩
    go_wp2_with fail
    refine (n2 _).mono ?_; rintro e w' ⟨rfl, rfl⟩
    go_wp2_with fail
    all_goals
      refine (r1_whole _ _ (by unfold wrap64; omega) (by unfold wrap64; omega)).mono ?_; rintro e w' ⟨rfl, hb⟩
      go_wp2_with fail
      go_ret
      refine ⟨ret_str (congrArg itoa ?_), hb⟩
      have hq : (x.tdiv y).natAbs ≤ x.natAbs := by rw [Int.natAbs_tdiv]; exact Nat.div_le_self _ _
      have e1 : wrap64 (x.tdiv y) = x.tdiv y := wr64 (by omega) (by omega)
      have e2 : wrap64 (x.tdiv y - 1) = x.tdiv y - 1 := wr64 (by omega) (by omega)
      rw [HG.out]
      simp only [e1, e2]
    · have h : x.tmod y = 0 := by assumption
      rw [h]; simp
    · have h : (x.tmod y != 0) = true ∧ (!decide (x < 0) == decide (y < 0)) = true := by assumption
      rw [h.1, if_pos]
      have := h.2
      cases h3 : decide (x < 0) <;> cases h4 : decide (y < 0) <;> simp_all
    · have h : (x.tmod y != 0) = false ∨ (!decide (x < 0) == decide (y < 0)) = false := by assumption
      rw [if_neg]
      cases h3 : decide (x < 0) <;> cases h4 : decide (y < 0) <;> simp_all
  · have sx := r1_sign_z x
    have sy := r1_sign_z y
    have bx := r1_body_z x
    have b_y := r1_body_z y
    have hdx : (decDigits x.natAbs).length ≤ 19000 := hx
    have hdy : (decDigits y.natAbs).length ≤ 19000 := hy
    have hcase : decide ((itoa x).length ≤ 17) = false ∨ (decide ((itoa x).length ≤ 17) = true ∧ decide ((itoa y).length ≤ 17) = false) := by
      by_cases h1 : (itoa x).length ≤ 17
      · right; exact ⟨by simpa using h1, by simpa using fun h2 => hs ⟨h1, h2⟩⟩
      · left; simpa using h1
    clear hs
    have nx := sgnZ_neg x
    have ny := sgnZ_neg y
    have hql := dec_len_mono (Nat.div_le_self x.natAbs y.natAbs)
    have hql2 := plus_len (x.natAbs / y.natAbs) 1 19000 (by omega) (by rw [dec_small (by omega)]; simp)
    have hval := fdiv_abs x y hy0
    have hny : 0 < y.natAbs := by omega
    have hr0 : (decDigits (x.natAbs % y.natAbs) != [48]) = decide (x.natAbs % y.natAbs ≠ 0) := by
      by_cases h : x.natAbs % y.natAbs = 0
      · rw [h, dec_zero]; rfl
      · rw [decide_eq_true h, bne_iff_ne]; exact mt (dec_eq_zero _).1 h
    have hone : decDigits 1 = [49] := dec_small (by omega)
    have hp1 := fun W => r1_plus (x.natAbs / y.natAbs) 1 W (by omega) (by rw [hone]; simp)
    rw [hone] at hp1
    have HP1 := Lib.hid hp1; clear hp1 hone
    by_cases hdown : decide (x < 0) = decide (y < 0)
    · have hS := fun W => r1_signed_n (x.natAbs / y.natAbs) false W (by omega)
      rw [hdown] at hval
      simp only [bne_self_eq_false, Bool.false_eq_true, if_false] at hval hS
      rw [← hval] at hS
      have HS := Lib.hid hS; clear hS hval hr0 HP1
      rw [hdown] at nx
      clear hdown
      generalize decide (y < 0) = b at *
      rcases hcase with h1 | ⟨h1, h2⟩
      all_goals
        cases b
        all_goals
          go_enter Tryz.func135, Tryz.ntmps135
          go_wp2_with (first | (go_at_call 136; refine (r1_short _ _).mono ?_; rintro e w' ⟨rfl, rfl⟩))
          refine (bx _).mono ?_; rintro e w' ⟨rfl, rfl⟩
          go_wp2_with fail
          refine (b_y _).mono ?_; rintro e w' ⟨rfl, rfl⟩
          go_wp2_with fail
          refine (r1_divided _ _ _ (by omega) (by omega) hny).mono ?_; rintro e w1 ⟨rfl, hb⟩
          go_wp2_with fail
          refine (sx _).mono ?_; rintro e w' ⟨rfl, rfl⟩
          go_wp2_with fail
          refine (sy _).mono ?_; rintro e w' ⟨rfl, rfl⟩
          go_wp2_with fail
          refine (HS.out _).mono ?_; rintro e w2 ⟨rfl, rfl⟩
          go_wp2_with fail
          go_ret
          exact ⟨rfl, hb⟩
    · have hns : decide (y < 0) = !decide (x < 0) := by
        cases h1 : decide (x < 0) <;> cases h2 : decide (y < 0) <;> simp_all
      have hb1 : (decide (x < 0) != decide (y < 0)) = true := by rw [hns]; cases decide (x < 0) <;> rfl
      rw [hb1, if_pos rfl] at hval
      rw [hns] at ny
      clear hb1 hns hdown
      generalize decide (x < 0) = b at *
      by_cases h0 : x.natAbs % y.natAbs = 0
      · have hS := fun W => r1_signed_n (x.natAbs / y.natAbs) true W (by omega)
        rw [if_pos h0] at hval
        simp only [Int.add_zero] at hval
        simp only [if_true] at hS
        rw [← hval] at hS
        have hdv := fun W => r1_divided x.natAbs y.natAbs W (by omega) (by omega) hny
        rw [h0, dec_zero] at hdv
        have HDV := Lib.hid hdv; clear hdv hr0
        have HS := Lib.hid hS; clear hS hval h0 HP1
        rcases hcase with h1 | ⟨h1, h2⟩
        all_goals
          cases b
          all_goals
            go_enter Tryz.func135, Tryz.ntmps135
            go_wp2_with (first | (go_at_call 136; refine (r1_short _ _).mono ?_; rintro e w' ⟨rfl, rfl⟩))
            refine (bx _).mono ?_; rintro e w' ⟨rfl, rfl⟩
            go_wp2_with fail
            refine (b_y _).mono ?_; rintro e w' ⟨rfl, rfl⟩
            go_wp2_with fail
            refine (HDV.out _).mono ?_; rintro e w1 ⟨rfl, hb⟩
            go_wp2_with fail
            refine (sx _).mono ?_; rintro e w' ⟨rfl, rfl⟩
            go_wp2_with fail
            refine (sy _).mono ?_; rintro e w' ⟨rfl, rfl⟩
            go_wp2_with fail
            refine (HS.out _).mono ?_; rintro e w2 ⟨rfl, rfl⟩
            go_wp2_with fail
            go_ret
            exact ⟨rfl, hb⟩
      · have hS := fun W => r1_signed_n (x.natAbs / y.natAbs + 1) true W (by omega)
        rw [if_neg h0] at hval
        simp only [if_true, Int.natCast_add] at hS
        rw [show ((1 : Nat) : Int) = 1 from rfl, ← hval] at hS
        have hr1 : (decDigits (x.natAbs % y.natAbs) == [48]) = false := by rw [beq_eq_false_iff_ne]; exact mt (dec_eq_zero _).1 h0
        clear hr0
        have HS := Lib.hid hS; clear hS hval h0
        rcases hcase with h1 | ⟨h1, h2⟩
        all_goals
          cases b
          all_goals
            go_enter Tryz.func135, Tryz.ntmps135
            go_wp2_with (first | (go_at_call 136; refine (r1_short _ _).mono ?_; rintro e w' ⟨rfl, rfl⟩))
            refine (bx _).mono ?_; rintro e w' ⟨rfl, rfl⟩
            go_wp2_with fail
            refine (b_y _).mono ?_; rintro e w' ⟨rfl, rfl⟩
            go_wp2_with fail
            refine (r1_divided _ _ _ (by omega) (by omega) hny).mono ?_; rintro e w1 ⟨rfl, hb⟩
            go_wp2_with fail
            refine (sx _).mono ?_; rintro e w' ⟨rfl, rfl⟩
            go_wp2_with fail
            refine (sy _).mono ?_; rintro e w' ⟨rfl, rfl⟩
            go_wp2_with fail
            refine (HP1.out _).mono ?_; rintro e w2 ⟨rfl, hb2⟩
            go_wp2_with fail
            refine (HS.out _).mono ?_; rintro e w3 ⟨rfl, rfl⟩
            go_wp2_with fail
            go_ret
            exact ⟨rfl, hb.trans (hb2.mono hb.size)⟩
end Go.Proofs.YtnjaikomoljmjaaGreatDoor
