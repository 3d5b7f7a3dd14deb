/-
  The reference of layer 2 (ratio): Check, Checks.
  The reference of layer 2 (ratio): the functions on right numbers.
  The reference of layer 2 (ratio): arithmetic on right numbers.
-/
import Derived.Test.YtnjaikomoljmjaaGreatDoorRq1
set_option linter.unusedVariables false
set_option linter.unusedSimpArgs false
namespace Lum
open Go.Lib (decDigits itoa)
theorem top_le (l : Txt) : (top l).length ≤ l.length := by rw [← top_take l]; simp; omega
theorem bot_le (l : Txt) : (bot l).length ≤ l.length + 1 := by
  cases h : hasSlash l with
  | true => rw [← bot_drop l h]; simp; omega
  | false => rw [bot_noslash l h]; simp
/-- Check of a text whose parts are the texts of integers. -/
theorem ratCheck_parts (l : Txt) (p q : Int) (hp : top l = itoa p) (hq : bot l = itoa q) :
    ratCheck l = if hasSlash l = true ∧ q ≤ 1 then 3 else if long p = true ∨ long q = true then 23 else if Nat.gcd p.natAbs q.natAbs ≠ 1 then 3 else 0 := by
  rw [ratCheck, hp, hq, zOf_itoa, zOf_itoa, shaped_itoa, shaped_itoa]; simp
/-- The first error of two texts. -/
def checkTwo (a b : Txt) : Int := if ratCheck a ≠ 0 then ratCheck a else ratCheck b
end Lum
namespace Go.Proofs.YtnjaikomoljmjaaGreatDoor
open Go.RowKit Lum
open Go.Lib (decDigits itoa)
attribute [local go_sem] bs_get bs_extract_end bs_extract_from bs_extract bs_append

set_option maxHeartbeats 2000000 in
theorem r2_check (l : Txt) (w : World) (hl : l.length ≤ 100000) :
    Calls Tryz.prog 34 #[.string ⟨l.toArray⟩] w fun e w' => e = .returned (.int .i64 (ratCheck l)) ∧ Below w.heap.size w w' := by
  have hT := r2_top l w (by omega)
  have hB := r2_bottom l w (by omega)
  have hS := r2_slash l w (by omega)
  have htl := top_le l
  have hbl := bot_le l
  have sT := r2_shaped (top l) w (by omega)
  have sB := r2_shaped (bot l) w (by omega)
  cases h1 : shaped (top l) with
  | false =>
    have hr : ratCheck l = 3 := by rw [ratCheck, if_pos (.inl h1)]
    have HR := Lib.hid hr; clear hr
    rw [h1] at sT
    clear h1 hS
    go_enter Tryz.func34, Tryz.ntmps34
    go_wp2_with (first | (go_at_call 95; refine hT.mono ?_; rintro e w' ⟨rfl, rfl⟩) | (go_at_call 96; refine hB.mono ?_; rintro e w' ⟨rfl, rfl⟩) | (go_at_call 98; refine sT.mono ?_; rintro e w' ⟨rfl, rfl⟩))
    go_ret
    exact ⟨ret_int HR.out.symm, Below.refl _ _⟩
  | true =>
    rw [h1] at sT
    cases h2 : shaped (bot l) with
    | false =>
      have hr : ratCheck l = 3 := by rw [ratCheck, if_pos (.inr (.inl h2))]
      have HR := Lib.hid hr; clear hr
      rw [h2] at sB
      clear h1 h2 hS
      go_enter Tryz.func34, Tryz.ntmps34
      go_wp2_with (first | (go_at_call 95; refine hT.mono ?_; rintro e w' ⟨rfl, rfl⟩) | (go_at_call 96; refine hB.mono ?_; rintro e w' ⟨rfl, rfl⟩))
      refine sT.mono ?_; rintro e w' ⟨rfl, rfl⟩
      go_wp2_with fail
      refine sB.mono ?_; rintro e w' ⟨rfl, rfl⟩
      go_wp2_with fail
      go_ret
      exact ⟨ret_int HR.out.symm, Below.refl _ _⟩
    | true =>
      rw [h2] at sB
      obtain ⟨p, hp⟩ := (shaped_iff _).1 h1
      obtain ⟨q, hq⟩ := (shaped_iff _).1 h2
      have hr := ratCheck_parts l p q hp hq
      have hsl := hasSlash_len l
      have hbn : hasSlash l = false → q = 1 := fun h => by
        have := bot_noslash l h; rw [hq] at this; exact (itoa_eq_one q).1 this
      have lp := dl_len p
      have lq := dl_len q
      rw [hp] at hT sT htl
      rw [hq] at hB sB hbl
      have dp := r1_digits_z p w
      have dq := r1_digits_z q w
      have gq := r1_sign_z q w
      have cpq := fun h1 h2 => r1_common p q w h1 h2
      have HR := Lib.hid hr; clear hr
      clear h1 h2
      generalize top l = tp at *
      clear hp hq
      cases hs : hasSlash l with
      | true =>
        have hlt := hsl.2 hs
        rw [hs] at HR
        clear hsl hbn hs
        by_cases hq1 : q ≤ 1
        · have hr := HR.out
          rw [if_pos ⟨rfl, hq1⟩] at hr
          have HR2 := Lib.hid hr; clear hr HR
          by_cases hq0 : q ≤ 0
          · have hsg : sgnZ q ≤ 0 := by unfold sgnZ; repeat' split
                                        all_goals omega
            go_enter Tryz.func34, Tryz.ntmps34
            go_wp2_with (first | (go_at_call 95; refine hT.mono ?_; rintro e w' ⟨rfl, rfl⟩) | (go_at_call 96; refine hB.mono ?_; rintro e w' ⟨rfl, rfl⟩))
            refine sT.mono ?_; rintro e w' ⟨rfl, rfl⟩
            go_wp2_with fail
            refine sB.mono ?_; rintro e w' ⟨rfl, rfl⟩
            go_wp2_with (first | (go_at_call 99; refine hS.mono ?_; rintro e w' ⟨rfl, rfl⟩) | (go_at_call 100; refine gq.mono ?_; rintro e w' ⟨rfl, rfl⟩))
            go_ret
            exact ⟨ret_int HR2.out.symm, Below.refl _ _⟩
          · obtain rfl : q = 1 := by omega
            have hone : (itoa 1 == [49]) = true := by rw [itoa_one]; rfl
            have hsg : ¬ sgnZ 1 ≤ 0 := by decide
            go_enter Tryz.func34, Tryz.ntmps34
            go_wp2_with (first | (go_at_call 95; refine hT.mono ?_; rintro e w' ⟨rfl, rfl⟩) | (go_at_call 96; refine hB.mono ?_; rintro e w' ⟨rfl, rfl⟩))
            refine sT.mono ?_; rintro e w' ⟨rfl, rfl⟩
            go_wp2_with fail
            refine sB.mono ?_; rintro e w' ⟨rfl, rfl⟩
            go_wp2_with (first | (go_at_call 99; refine hS.mono ?_; rintro e w' ⟨rfl, rfl⟩) | (go_at_call 100; refine gq.mono ?_; rintro e w' ⟨rfl, rfl⟩))
            go_ret
            exact ⟨ret_int HR2.out.symm, Below.refl _ _⟩
        · have hq2 : ¬ sgnZ q ≤ 0 := by unfold sgnZ; repeat' split
                                        all_goals omega
          have hone : (itoa q == [49]) = false := by rw [beq_eq_false_iff_ne]; exact fun h => hq1 (by rw [(itoa_eq_one q).1 h]; omega)
          have hr := HR.out
          rw [if_neg (by rintro ⟨_, h⟩; exact hq1 h), long_dl, long_dl] at hr
          by_cases h4 : 4096 < dl p
          · rw [if_pos (.inl (by simpa using h4))] at hr
            have HR2 := Lib.hid hr; clear hr HR
            go_enter Tryz.func34, Tryz.ntmps34
            go_wp2_with (first | (go_at_call 95; refine hT.mono ?_; rintro e w' ⟨rfl, rfl⟩) | (go_at_call 96; refine hB.mono ?_; rintro e w' ⟨rfl, rfl⟩))
            refine sT.mono ?_; rintro e w' ⟨rfl, rfl⟩
            go_wp2_with fail
            refine sB.mono ?_; rintro e w' ⟨rfl, rfl⟩
            go_wp2_with (first | (go_at_call 99; refine hS.mono ?_; rintro e w' ⟨rfl, rfl⟩) | (go_at_call 100; refine gq.mono ?_; rintro e w' ⟨rfl, rfl⟩))
            refine dp.mono ?_; rintro e w' ⟨rfl, rfl⟩
            go_wp2_with fail
            go_ret
            exact ⟨ret_int HR2.out.symm, Below.refl _ _⟩
          · by_cases h5 : 4096 < dl q
            · rw [if_pos (.inr (by simpa using h5))] at hr
              have HR2 := Lib.hid hr; clear hr HR
              go_enter Tryz.func34, Tryz.ntmps34
              go_wp2_with (first | (go_at_call 95; refine hT.mono ?_; rintro e w' ⟨rfl, rfl⟩) | (go_at_call 96; refine hB.mono ?_; rintro e w' ⟨rfl, rfl⟩))
              refine sT.mono ?_; rintro e w' ⟨rfl, rfl⟩
              go_wp2_with fail
              refine sB.mono ?_; rintro e w' ⟨rfl, rfl⟩
              go_wp2_with (first | (go_at_call 99; refine hS.mono ?_; rintro e w' ⟨rfl, rfl⟩) | (go_at_call 100; refine gq.mono ?_; rintro e w' ⟨rfl, rfl⟩))
              refine dp.mono ?_; rintro e w' ⟨rfl, rfl⟩
              go_wp2_with fail
              refine dq.mono ?_; rintro e w' ⟨rfl, rfl⟩
              go_wp2_with fail
              go_ret
              exact ⟨ret_int HR2.out.symm, Below.refl _ _⟩
            · rw [if_neg (by simp; omega)] at hr
              have hC := cpq (by omega) (by omega)
              by_cases h6 : Nat.gcd p.natAbs q.natAbs = 1
              · rw [if_neg (by simpa using h6)] at hr
                have HR2 := Lib.hid hr; clear hr HR
                have hg : decDigits (Nat.gcd p.natAbs q.natAbs) = [49] := by rw [h6]; exact dec_small (by omega)
                rw [hg] at hC
                clear h6 hg
                go_enter Tryz.func34, Tryz.ntmps34
                go_wp2_with (first | (go_at_call 95; refine hT.mono ?_; rintro e w' ⟨rfl, rfl⟩) | (go_at_call 96; refine hB.mono ?_; rintro e w' ⟨rfl, rfl⟩))
                refine sT.mono ?_; rintro e w' ⟨rfl, rfl⟩
                go_wp2_with fail
                refine sB.mono ?_; rintro e w' ⟨rfl, rfl⟩
                go_wp2_with (first | (go_at_call 99; refine hS.mono ?_; rintro e w' ⟨rfl, rfl⟩) | (go_at_call 100; refine gq.mono ?_; rintro e w' ⟨rfl, rfl⟩))
                refine dp.mono ?_; rintro e w' ⟨rfl, rfl⟩
                go_wp2_with fail
                refine dq.mono ?_; rintro e w' ⟨rfl, rfl⟩
                go_wp2_with fail
                refine hC.mono ?_; rintro e w1 ⟨rfl, hb⟩
                go_wp2_with fail
                go_ret
                exact ⟨ret_int HR2.out.symm, hb⟩
              · rw [if_pos h6] at hr
                have HR2 := Lib.hid hr; clear hr HR
                have hg : (decDigits (Nat.gcd p.natAbs q.natAbs) == [49]) = false := by rw [beq_eq_false_iff_ne]; exact mt (dec_eq_one _).1 h6
                clear h6
                generalize decDigits (Nat.gcd p.natAbs q.natAbs) = g at *
                go_enter Tryz.func34, Tryz.ntmps34
                go_wp2_with (first | (go_at_call 95; refine hT.mono ?_; rintro e w' ⟨rfl, rfl⟩) | (go_at_call 96; refine hB.mono ?_; rintro e w' ⟨rfl, rfl⟩))
                refine sT.mono ?_; rintro e w' ⟨rfl, rfl⟩
                go_wp2_with fail
                refine sB.mono ?_; rintro e w' ⟨rfl, rfl⟩
                go_wp2_with (first | (go_at_call 99; refine hS.mono ?_; rintro e w' ⟨rfl, rfl⟩) | (go_at_call 100; refine gq.mono ?_; rintro e w' ⟨rfl, rfl⟩))
                refine dp.mono ?_; rintro e w' ⟨rfl, rfl⟩
                go_wp2_with fail
                refine dq.mono ?_; rintro e w' ⟨rfl, rfl⟩
                go_wp2_with fail
                refine hC.mono ?_; rintro e w1 ⟨rfl, hb⟩
                go_wp2_with fail
                go_ret
                exact ⟨ret_int HR2.out.symm, hb⟩
      | false =>
        have hlt : ¬ tp.length < l.length := fun h => by have := hsl.1 h; rw [hs] at this; cases this
        obtain rfl := hbn hs
        rw [hs] at HR
        clear hsl hbn hs
        have hr := HR.out
        have d1 : dl 1 = 1 := by unfold dl; rw [show (1 : Int).natAbs = 1 from rfl, dec_small (by omega)]; rfl
        rw [if_neg (by rintro ⟨h, _⟩; cases h), long_dl, long_dl, d1] at hr
        rw [d1] at dq
        clear d1
        by_cases h4 : 4096 < dl p
        · rw [if_pos (.inl (by simpa using h4))] at hr
          have HR2 := Lib.hid hr; clear hr HR
          go_enter Tryz.func34, Tryz.ntmps34
          go_wp2_with (first | (go_at_call 95; refine hT.mono ?_; rintro e w' ⟨rfl, rfl⟩) | (go_at_call 96; refine hB.mono ?_; rintro e w' ⟨rfl, rfl⟩))
          refine sT.mono ?_; rintro e w' ⟨rfl, rfl⟩
          go_wp2_with fail
          refine sB.mono ?_; rintro e w' ⟨rfl, rfl⟩
          go_wp2_with (first | (go_at_call 99; refine hS.mono ?_; rintro e w' ⟨rfl, rfl⟩) | (go_at_call 100; refine gq.mono ?_; rintro e w' ⟨rfl, rfl⟩))
          refine dp.mono ?_; rintro e w' ⟨rfl, rfl⟩
          go_wp2_with fail
          go_ret
          exact ⟨ret_int HR2.out.symm, Below.refl _ _⟩
        · rw [if_neg (by simp; omega), if_neg (by simp)] at hr
          have HR2 := Lib.hid hr; clear hr HR
          go_enter Tryz.func34, Tryz.ntmps34
          go_wp2_with (first | (go_at_call 95; refine hT.mono ?_; rintro e w' ⟨rfl, rfl⟩) | (go_at_call 96; refine hB.mono ?_; rintro e w' ⟨rfl, rfl⟩))
          refine sT.mono ?_; rintro e w' ⟨rfl, rfl⟩
          go_wp2_with fail
          refine sB.mono ?_; rintro e w' ⟨rfl, rfl⟩
          go_wp2_with (first | (go_at_call 99; refine hS.mono ?_; rintro e w' ⟨rfl, rfl⟩) | (go_at_call 100; refine gq.mono ?_; rintro e w' ⟨rfl, rfl⟩))
          refine dp.mono ?_; rintro e w' ⟨rfl, rfl⟩
          go_wp2_with fail
          refine dq.mono ?_; rintro e w' ⟨rfl, rfl⟩
          go_wp2_with fail
          go_ret
          exact ⟨ret_int HR2.out.symm, Below.refl _ _⟩

set_option maxHeartbeats 1000000 in
theorem r2_checks (a b : Txt) (w : World) (ha : a.length ≤ 100000) (hb : b.length ≤ 100000) :
    Calls Tryz.prog 113 #[.string ⟨a.toArray⟩, .string ⟨b.toArray⟩] w fun e w' => e = .returned (.int .i64 (checkTwo a b)) ∧ Below w.heap.size w w' := by
  have hA := r2_check a w ha
  have hB := fun W => r2_check b W hb
  by_cases h0 : ratCheck a = 0
  · rw [h0] at hA
    have hn : checkTwo a b = ratCheck b := by rw [checkTwo, if_neg (by simpa using h0)]
    have HN := Lib.hid hn; clear hn h0
    go_enter Tryz.func113, Tryz.ntmps113
    go_wp2_with fail
    refine hA.mono ?_; rintro e w1 ⟨rfl, hb1⟩
    go_wp2_with fail
    refine (hB _).mono ?_; rintro e w2 ⟨rfl, hb2⟩
    go_wp2_with fail
    go_ret
    exact ⟨ret_int HN.out.symm, hb1.trans (hb2.mono hb1.size)⟩
  · have hn : checkTwo a b = ratCheck a := by rw [checkTwo, if_pos h0]
    have HN := Lib.hid hn; clear hn
    have h0' : (ratCheck a != 0) = true := by simpa using h0
    clear h0
    generalize ratCheck a = e at *
    go_enter Tryz.func113, Tryz.ntmps113
    go_wp2_with fail
    refine hA.mono ?_; rintro e w1 ⟨rfl, hb1⟩
    go_wp2_with fail
    go_ret
    exact ⟨ret_int HN.out.symm, hb1⟩
end Go.Proofs.YtnjaikomoljmjaaGreatDoor
namespace Lum
open Go
open Go.Lib (decDigits itoa)
/-- Both parts have at most k digits. -/
def Fits (k : Nat) (x : Rat) : Prop := dl x.num ≤ k ∧ dl (x.den : Int) ≤ k
theorem Fits.mono {k l : Nat} {x : Rat} (h : Fits k x) (hl : k ≤ l) : Fits l x := ⟨Nat.le_trans h.1 hl, Nat.le_trans h.2 hl⟩
theorem fit_fits (x : Rat) : Fit x ↔ Fits 4096 x := by
  unfold Fit Fits LIM
  rw [dl_le (by omega), dl_le (by omega), Int.natAbs_natCast]
theorem showR_len (x : Rat) (k : Nat) (h : Fits k x) : (showR x).length ≤ 2 * k + 2 := by
  have h1 := itoa_len_dl x.num
  have h2 : (decDigits x.den).length ≤ k := by have := h.2; unfold dl at this; simpa using this
  have h3 := h.1
  unfold showR
  split
  · omega
  · simp only [List.length_append, List.length_cons]; omega
theorem showR_eq_zero (x : Rat) : showR x = [48] ↔ x = 0 := by
  have h0 : showR 0 = [48] := by unfold showR; rw [if_pos (by rfl)]; exact (itoa_eq_zero 0).2 rfl
  constructor
  · intro h
    apply showR_inj; rw [h, h0]
  · rintro rfl; exact h0
theorem bot_z (x : Rat) : bot (showR x) = itoa (x.den : Int) := by rw [bot_showR, itoa_nat]
theorem mul_fdiv_neg (a g : Int) (hg : g ≠ 0) : Int.fdiv (g * a) (-g) = -a := by
  rw [show g * a = (-g) * (-a) by rw [Int.neg_mul_neg], Int.mul_fdiv_cancel_left _ (by omega)]
/-- The reduced parts of a quotient. -/
theorem ratio_parts (p q : Int) (hq : q ≠ 0) (g : Nat) (hg : g = Nat.gcd p.natAbs q.natAbs) (s : Int) (hs : s = if q < 0 then -(g : Int) else g) :
    Int.fdiv p s = (Rat.divInt p q).num ∧ Int.fdiv q s = ((Rat.divInt p q).den : Int) := by
  have hgp : 0 < g := by rw [hg]; exact Nat.gcd_pos_of_pos_right _ (by omega)
  have d1 : (g : Int) ∣ p := by rw [hg]; exact Int.natAbs_dvd_natAbs.1 (by simpa using Nat.gcd_dvd_left _ _)
  have d2 : (g : Int) ∣ q := by rw [hg]; exact Int.natAbs_dvd_natAbs.1 (by simpa using Nat.gcd_dvd_right _ _)
  rw [Rat.num_divInt, Rat.den_divInt, if_neg hq]
  have e : Int.gcd q p = g := by rw [Int.gcd, Nat.gcd_comm, hg]
  rw [e]
  obtain ⟨a, rfl⟩ := d1
  obtain ⟨b, rfl⟩ := d2
  have hb : b ≠ 0 := by rintro rfl; simp at hq
  have hg0 : (g : Int) ≠ 0 := by omega
  have hn : ((g : Int) * b).natAbs / g = b.natAbs := by rw [Int.natAbs_mul]; simp; exact Nat.mul_div_cancel_left _ hgp
  rw [hn]
  have hneg : ((g : Int) * b < 0) ↔ b < 0 := by
    constructor
    · intro h; rcases Int.lt_or_le b 0 with h' | h'
      · exact h'
      · have := Int.mul_nonneg (by omega : (0:Int) ≤ g) h'; omega
    · intro h; exact Int.mul_neg_of_pos_of_neg (by omega) h
  rw [Int.sign_mul, Int.sign_eq_one_of_pos (by omega : (0 : Int) < g), Int.one_mul]
  by_cases hb2 : b < 0
  · rw [if_pos (hneg.2 hb2)] at hs
    subst hs
    rw [Int.sign_eq_neg_one_of_neg hb2]
    rw [mul_fdiv_neg a g hg0, mul_fdiv_neg b g hg0]
    constructor
    · rw [show (-1 : Int) * (g * a) = g * (-a) by rw [Int.mul_neg]; omega, Int.mul_ediv_cancel_left _ hg0]
    · omega
  · rw [if_neg (mt hneg.1 hb2)] at hs
    subst hs
    rw [Int.sign_eq_one_of_pos (by omega), Int.one_mul, Int.mul_ediv_cancel_left _ hg0, Int.mul_fdiv_cancel_left _ hg0, Int.mul_fdiv_cancel_left _ hg0]
    exact ⟨rfl, by omega⟩
theorem divInt_le (p q : Int) (hq : q ≠ 0) : (Rat.divInt p q).num.natAbs ≤ p.natAbs ∧ (Rat.divInt p q).den ≤ q.natAbs := by
  rw [Rat.num_divInt, Rat.den_divInt, if_neg hq]
  constructor
  · refine Nat.le_trans (Int.natAbs_ediv_le_natAbs _ _) ?_
    rw [Int.natAbs_mul]
    rcases Int.lt_trichotomy q 0 with h | h | h
    · rw [Int.sign_eq_neg_one_of_neg h]; simp
    · exact absurd h hq
    · rw [Int.sign_eq_one_of_pos h]; simp
  · exact Nat.div_le_self _ _
theorem divInt_fits (p q : Int) (hq : q ≠ 0) (k : Nat) (h1 : dl p ≤ k) (h2 : dl q ≤ k) : Fits k (Rat.divInt p q) := by
  have := divInt_le p q hq
  exact ⟨Nat.le_trans (dl_mono this.1) h1, Nat.le_trans (dl_mono (by simpa using this.2)) h2⟩
end Lum

namespace Lum
open Go Go.RowKit
theorem bch {w w1 w2 : World} (h1 : Below w.heap.size w w1) (h2 : Below w1.heap.size w1 w2) : Below w.heap.size w w2 := h1.trans (h2.mono h1.size)
end Lum
namespace Go.Proofs.YtnjaikomoljmjaaGreatDoor
open Go.RowKit Lum
open Go.Lib (decDigits itoa)
attribute [local go_sem] bs_get bs_extract_end bs_extract_from bs_extract bs_append

theorem r2_top_q (x : Rat) (w : World) (hx : Fits 19000 x) :
    Calls Tryz.prog 95 #[.string ⟨(showR x).toArray⟩] w fun e w' => e = .returned (.string ⟨(itoa x.num).toArray⟩) ∧ w = w' := by
  rw [← top_showR]; exact r2_top _ _ (by have := showR_len x _ hx; omega)
theorem r2_bottom_q (x : Rat) (w : World) (hx : Fits 19000 x) :
    Calls Tryz.prog 96 #[.string ⟨(showR x).toArray⟩] w fun e w' => e = .returned (.string ⟨(itoa (x.den : Int)).toArray⟩) ∧ w = w' := by
  rw [← bot_z]; exact r2_bottom _ _ (by have := showR_len x _ hx; omega)

set_option maxHeartbeats 1000000 in
theorem r2_ratio (p q : Int) (w : World) (hp : dl p ≤ 19000) (hq : dl q ≤ 19000) (hq0 : q ≠ 0) :
    Calls Tryz.prog 92 #[.string ⟨(itoa p).toArray⟩, .string ⟨(itoa q).toArray⟩] w fun e w' => e = .returned (.string ⟨(showR (Rat.divInt p q)).toArray⟩) ∧ Below w.heap.size w w' := by
  obtain ⟨g, hg⟩ : ∃ g : Nat, g = Nat.gcd p.natAbs q.natAbs := ⟨_, rfl⟩
  have hC := r1_common p q w hp hq
  rw [← hg, ← itoa_nat] at hC
  have hgp : 0 < g := by rw [hg]; exact Nat.gcd_pos_of_pos_right _ (by omega)
  have hgq : g ≤ q.natAbs := by rw [hg]; exact Nat.gcd_le_right _ (by omega)
  have hgd : dl (g : Int) ≤ 19000 := Nat.le_trans (dl_mono (by simpa using hgq)) hq
  have hfit := divInt_fits p q hq0 19000 hp hq
  have key := fun s hs => ratio_parts p q hq0 g hg s hs
  generalize hr : Rat.divInt p q = r at *
  have hshow : showR r = if (r.den : Int) = 1 then itoa r.num else itoa r.num ++ 47 :: itoa (r.den : Int) := by
    rw [showR, itoa_nat]
    by_cases h : r.den = 1
    · rw [if_pos h, if_pos (by omega)]
    · rw [if_neg h, if_neg (by omega)]
  have ln := Nat.le_trans (itoa_len_dl r.num) (Nat.add_le_add_right hfit.1 1)
  have ld := Nat.le_trans (itoa_len_dl (r.den : Int)) (Nat.add_le_add_right hfit.2 1)
  clear hr hg hfit
  have sq := r1_sign_z q
  have HS := Lib.hid hshow; clear hshow
  have hd : (r.den : Int) = 1 ∨ ¬ (r.den : Int) = 1 := by omega
  have hone : itoa 1 = [49] := itoa_one
  by_cases hneg : q < 0
  · have k := key (-(g : Int)) (by rw [if_pos hneg])
    have hF1 := fun W => r1_floor p (-(g : Int)) W hp (by rw [dl_neg]; exact hgd) (by omega)
    have hF2 := fun W => r1_floor q (-(g : Int)) W hq (by rw [dl_neg]; exact hgd) (by omega)
    rw [k.1] at hF1; rw [k.2] at hF2
    have hsg : sgnZ q < 0 := by unfold sgnZ; repeat' split
                                all_goals omega
    have hN := fun W => r1_negated_z (g : Int) W (by omega)
    clear key k
    rcases hd with hd | hd
    · have h2 := HS.out
      rw [if_pos hd] at h2
      have H2 := Lib.hid h2; clear h2 HS
      rw [hd, hone] at hF2
      clear hd hone
      go_enter Tryz.func92, Tryz.ntmps92
      go_wp2_with fail; refine ((hC).mono ?_); rintro e w1 ⟨rfl, hb1⟩
      go_wp2_with fail; refine ((sq _).mono ?_); rintro e w' ⟨rfl, rfl⟩
      go_wp2_with fail; refine ((hN _).mono ?_); rintro e w' ⟨rfl, rfl⟩
      go_wp2_with fail; refine ((hF1 _).mono ?_); rintro e w2 ⟨rfl, hb2⟩
      go_wp2_with fail; refine ((hF2 _).mono ?_); rintro e w3 ⟨rfl, hb3⟩
      go_wp2_with fail
      go_ret
      exact ⟨ret_str H2.out.symm, bch (bch hb1 hb2) hb3⟩
    · have h2 := HS.out
      rw [if_neg hd] at h2
      have H2 := Lib.hid h2; clear h2 HS
      have hne : (itoa (r.den : Int) == [49]) = false := by rw [beq_eq_false_iff_ne]; exact mt (itoa_eq_one _).1 hd
      clear hd hone
      go_enter Tryz.func92, Tryz.ntmps92
      go_wp2_with fail; refine ((hC).mono ?_); rintro e w1 ⟨rfl, hb1⟩
      go_wp2_with fail; refine ((sq _).mono ?_); rintro e w' ⟨rfl, rfl⟩
      go_wp2_with fail; refine ((hN _).mono ?_); rintro e w' ⟨rfl, rfl⟩
      go_wp2_with fail; refine ((hF1 _).mono ?_); rintro e w2 ⟨rfl, hb2⟩
      go_wp2_with fail; refine ((hF2 _).mono ?_); rintro e w3 ⟨rfl, hb3⟩
      go_wp2_with fail
      go_ret
      exact ⟨ret_str (by rw [H2.out]), bch (bch hb1 hb2) hb3⟩
  · have k := key (g : Int) (by rw [if_neg hneg])
    have hF1 := fun W => r1_floor p (g : Int) W hp hgd (by omega)
    have hF2 := fun W => r1_floor q (g : Int) W hq hgd (by omega)
    rw [k.1] at hF1; rw [k.2] at hF2
    have hsg : ¬ sgnZ q < 0 := by unfold sgnZ; repeat' split
                                  all_goals omega
    clear key k
    rcases hd with hd | hd
    · have h2 := HS.out
      rw [if_pos hd] at h2
      have H2 := Lib.hid h2; clear h2 HS
      rw [hd, hone] at hF2
      clear hd hone
      go_enter Tryz.func92, Tryz.ntmps92
      go_wp2_with fail; refine ((hC).mono ?_); rintro e w1 ⟨rfl, hb1⟩
      go_wp2_with fail; refine ((sq _).mono ?_); rintro e w' ⟨rfl, rfl⟩
      go_wp2_with fail; refine ((hF1 _).mono ?_); rintro e w2 ⟨rfl, hb2⟩
      go_wp2_with fail; refine ((hF2 _).mono ?_); rintro e w3 ⟨rfl, hb3⟩
      go_wp2_with fail
      go_ret
      exact ⟨ret_str H2.out.symm, bch (bch hb1 hb2) hb3⟩
    · have h2 := HS.out
      rw [if_neg hd] at h2
      have H2 := Lib.hid h2; clear h2 HS
      have hne : (itoa (r.den : Int) == [49]) = false := by rw [beq_eq_false_iff_ne]; exact mt (itoa_eq_one _).1 hd
      clear hd hone
      go_enter Tryz.func92, Tryz.ntmps92
      go_wp2_with fail; refine ((hC).mono ?_); rintro e w1 ⟨rfl, hb1⟩
      go_wp2_with fail; refine ((sq _).mono ?_); rintro e w' ⟨rfl, rfl⟩
      go_wp2_with fail; refine ((hF1 _).mono ?_); rintro e w2 ⟨rfl, hb2⟩
      go_wp2_with fail; refine ((hF2 _).mono ?_); rintro e w3 ⟨rfl, hb3⟩
      go_wp2_with fail
      go_ret
      exact ⟨ret_str (by rw [H2.out]), bch (bch hb1 hb2) hb3⟩
end Go.Proofs.YtnjaikomoljmjaaGreatDoor
namespace Lum
open Go
open Go.Lib (decDigits itoa)
theorem cmpZ_sgn (x y : Rat) : cmpZ (x.num * y.den) (y.num * x.den) = sgn x y := by
  unfold cmpZ sgn
  by_cases h1 : x < y
  · rw [if_pos h1, if_pos ((lt_cross x y).1 h1)]
  · rw [if_neg h1, if_neg (mt (lt_cross x y).2 h1)]
    by_cases h2 : y < x
    · rw [if_pos h2, if_pos ((lt_cross y x).1 h2)]
    · rw [if_neg h2, if_neg (mt (lt_cross y x).2 h2)]
theorem den_ne (x : Rat) : (x.den : Int) ≠ 0 := by have := x.den_pos; omega
/-- The greatest integer that is at most a number. -/
def flr (x : Rat) : Int := Int.fdiv x.num x.den
def half : Rat := ⟨1, 2, by decide, by decide⟩
def near (x : Rat) : Int := flr (x + half)
def least (x y : Rat) : Rat := if y < x then y else x
def most (x y : Rat) : Rat := if x < y then y else x
def clampR (x : Rat) (lo hi : Int) : Rat := if x < (lo : Rat) then (lo : Rat) else least x hi
theorem showR_int (n : Int) : showR (n : Rat) = itoa n := by
  unfold showR; rw [if_pos (by rfl)]; rfl
theorem fits_int (n : Int) (k : Nat) (hk : 1 ≤ k) (h : dl n ≤ k) : Fits k (n : Rat) := ⟨h, by
  show dl 1 ≤ k
  have : dl 1 = 1 := by unfold dl; rw [show (1 : Int).natAbs = 1 from rfl, dec_small (by omega)]; rfl
  omega⟩
theorem dl_i64 (n : Int) (h0 : -9223372036854775808 ≤ n) (h1 : n ≤ 9223372036854775807) : dl n ≤ 19 := by
  rw [dl_le (by omega)]
  have : (10 : Nat) ^ 19 = 10000000000000000000 := by decide
  rw [this]; omega
theorem fits_i64 (n : Int) (h0 : -9223372036854775808 ≤ n) (h1 : n ≤ 9223372036854775807) : Fits 19 (n : Rat) := fits_int _ _ (by omega) (dl_i64 n h0 h1)
/-- Whether the product is too long. -/
def longP (a b : Int) : Bool := decide (4096 < dl (a * b))
theorem longP_long (a b : Int) : longP a b = long (a * b) := rfl
/-- The number of the error of the products p s and r q. -/
def qCross (x y : Rat) : Int := if longP x.num y.den || longP y.num x.den then 23 else 0
def qSum (x y : Rat) : Int := if longP x.num y.den || longP y.num x.den || long (x.num * y.den + y.num * x.den) || longP x.den y.den then 23 else 0
theorem fits_add {k : Nat} {x y : Rat} (hx : Fits k x) (hy : Fits k y) : Fits (2 * k + 1) (x + y) := by
  rw [add_divInt]
  have a := dl_mul x.num y.den
  have b := dl_mul y.num x.den
  have c := dl_mul x.den y.den
  have := hx.1; have := hx.2; have := hy.1; have := hy.2
  refine divInt_fits _ _ (Int.mul_ne_zero (den_ne x) (den_ne y)) _ (dl_add _ _ (2 * k) (by omega) (by omega)) (by omega)
theorem fits_mul {k : Nat} {x y : Rat} (hx : Fits k x) (hy : Fits k y) : Fits (2 * k + 1) (x * y) := by
  rw [mul_divInt]
  have a := dl_mul x.num y.num
  have c := dl_mul x.den y.den
  have := hx.1; have := hx.2; have := hy.1; have := hy.2
  refine divInt_fits _ _ (Int.mul_ne_zero (den_ne x) (den_ne y)) _ (by omega) (by omega)
theorem fits_neg {k : Nat} {x : Rat} (hx : Fits k x) : Fits k (-x) := by
  refine ⟨?_, ?_⟩
  · rw [Rat.neg_num, dl_neg]; exact hx.1
  · rw [Rat.neg_den]; exact hx.2
end Lum
namespace Go.Proofs.YtnjaikomoljmjaaGreatDoor
open Go.RowKit Lum
open Go.Lib (decDigits itoa)
attribute [local go_sem] bs_get bs_extract_end bs_extract_from bs_extract bs_append

set_option maxHeartbeats 1000000 in
theorem r2_order (x y : Rat) (w : World) (hx : Fits 9000 x) (hy : Fits 9000 y) :
    Calls Tryz.prog 35 #[.string ⟨(showR x).toArray⟩, .string ⟨(showR y).toArray⟩] w fun e w' => e = .returned (.int .i64 (sgn x y)) ∧ Below w.heap.size w w' := by
  rw [← cmpZ_sgn]
  have tx := fun W => r2_top_q x W (hx.mono (by omega))
  have bx := fun W => r2_bottom_q x W (hx.mono (by omega))
  have ty := fun W => r2_top_q y W (hy.mono (by omega))
  have b_y := fun W => r2_bottom_q y W (hy.mono (by omega))
  obtain ⟨hx1, hx2⟩ := hx
  obtain ⟨hy1, hy2⟩ := hy
  have d1 := dl_mul x.num y.den
  have d2 := dl_mul y.num x.den
  have p1 := fun W => r1_product x.num y.den W (by omega) (by omega)
  have p2 := fun W => r1_product y.num x.den W (by omega) (by omega)
  have o := fun W => r1_order (x.num * y.den) (y.num * x.den) W (by omega) (by omega)
  generalize x.num * (y.den : Int) = u at *
  generalize y.num * (x.den : Int) = v at *
  go_enter Tryz.func35, Tryz.ntmps35
  go_wp2_with fail; refine ((tx _).mono ?_); rintro e w' ⟨rfl, rfl⟩
  go_wp2_with fail; refine ((b_y _).mono ?_); rintro e w' ⟨rfl, rfl⟩
  go_wp2_with fail; refine ((p1 _).mono ?_); rintro e w1 ⟨rfl, hb1⟩
  go_wp2_with fail; refine ((ty _).mono ?_); rintro e w' ⟨rfl, rfl⟩
  go_wp2_with fail; refine ((bx _).mono ?_); rintro e w' ⟨rfl, rfl⟩
  go_wp2_with fail; refine ((p2 _).mono ?_); rintro e w2 ⟨rfl, hb2⟩
  go_wp2_with fail; refine ((o _).mono ?_); rintro e w3 ⟨rfl, hb3⟩
  go_wp2_with fail
  go_ret
  exact ⟨rfl, bch (bch hb1 hb2) hb3⟩

set_option maxHeartbeats 1000000 in
theorem r2_plus (x y : Rat) (w : World) (hx : Fits 9000 x) (hy : Fits 9000 y) :
    Calls Tryz.prog 31 #[.string ⟨(showR x).toArray⟩, .string ⟨(showR y).toArray⟩] w fun e w' => e = .returned (.string ⟨(showR (x + y)).toArray⟩) ∧ Below w.heap.size w w' := by
  rw [add_divInt]
  have tx := fun W => r2_top_q x W (hx.mono (by omega))
  have bx := fun W => r2_bottom_q x W (hx.mono (by omega))
  have ty := fun W => r2_top_q y W (hy.mono (by omega))
  have b_y := fun W => r2_bottom_q y W (hy.mono (by omega))
  obtain ⟨hx1, hx2⟩ := hx
  obtain ⟨hy1, hy2⟩ := hy
  have d1 := dl_mul x.num y.den
  have d2 := dl_mul y.num x.den
  have d3 := dl_mul x.den y.den
  have d4 := dl_add (x.num * y.den) (y.num * x.den) 18000 (by omega) (by omega)
  have p1 := fun W => r1_product x.num y.den W (by omega) (by omega)
  have p2 := fun W => r1_product y.num x.den W (by omega) (by omega)
  have p3 := fun W => r1_product x.den y.den W (by omega) (by omega)
  have s := fun W => r1_sum (x.num * y.den) (y.num * x.den) W (by omega) (by omega)
  have r := fun W => r2_ratio (x.num * y.den + y.num * x.den) (x.den * y.den) W (by omega) (by omega) (Int.mul_ne_zero (den_ne x) (den_ne y))
  generalize x.num * (y.den : Int) = u at *
  generalize y.num * (x.den : Int) = v at *
  generalize (x.den : Int) * (y.den : Int) = t at *
  generalize u + v = z at *
  go_enter Tryz.func31, Tryz.ntmps31
  go_wp2_with fail; refine ((tx _).mono ?_); rintro e w' ⟨rfl, rfl⟩
  go_wp2_with fail; refine ((b_y _).mono ?_); rintro e w' ⟨rfl, rfl⟩
  go_wp2_with fail; refine ((p1 _).mono ?_); rintro e w1 ⟨rfl, hb1⟩
  go_wp2_with fail; refine ((ty _).mono ?_); rintro e w' ⟨rfl, rfl⟩
  go_wp2_with fail; refine ((bx _).mono ?_); rintro e w' ⟨rfl, rfl⟩
  go_wp2_with fail; refine ((p2 _).mono ?_); rintro e w2 ⟨rfl, hb2⟩
  go_wp2_with fail; refine ((s _).mono ?_); rintro e w3 ⟨rfl, hb3⟩
  go_wp2_with fail; refine ((bx _).mono ?_); rintro e w' ⟨rfl, rfl⟩
  go_wp2_with fail; refine ((b_y _).mono ?_); rintro e w' ⟨rfl, rfl⟩
  go_wp2_with fail; refine ((p3 _).mono ?_); rintro e w4 ⟨rfl, hb4⟩
  go_wp2_with fail; refine ((r _).mono ?_); rintro e w5 ⟨rfl, hb5⟩
  go_wp2_with fail
  go_ret
  exact ⟨rfl, bch (bch (bch (bch hb1 hb2) hb3) hb4) hb5⟩

set_option maxHeartbeats 1000000 in
theorem r2_times (x y : Rat) (w : World) (hx : Fits 9000 x) (hy : Fits 9000 y) :
    Calls Tryz.prog 118 #[.string ⟨(showR x).toArray⟩, .string ⟨(showR y).toArray⟩] w fun e w' => e = .returned (.string ⟨(showR (x * y)).toArray⟩) ∧ Below w.heap.size w w' := by
  rw [mul_divInt]
  have tx := fun W => r2_top_q x W (hx.mono (by omega))
  have bx := fun W => r2_bottom_q x W (hx.mono (by omega))
  have ty := fun W => r2_top_q y W (hy.mono (by omega))
  have b_y := fun W => r2_bottom_q y W (hy.mono (by omega))
  obtain ⟨hx1, hx2⟩ := hx
  obtain ⟨hy1, hy2⟩ := hy
  have d1 := dl_mul x.num y.num
  have d3 := dl_mul x.den y.den
  have p1 := fun W => r1_product x.num y.num W (by omega) (by omega)
  have p3 := fun W => r1_product x.den y.den W (by omega) (by omega)
  have r := fun W => r2_ratio (x.num * y.num) (x.den * y.den) W (by omega) (by omega) (Int.mul_ne_zero (den_ne x) (den_ne y))
  generalize x.num * y.num = u at *
  generalize (x.den : Int) * (y.den : Int) = t at *
  go_enter Tryz.func118, Tryz.ntmps118
  go_wp2_with fail; refine ((tx _).mono ?_); rintro e w' ⟨rfl, rfl⟩
  go_wp2_with fail; refine ((ty _).mono ?_); rintro e w' ⟨rfl, rfl⟩
  go_wp2_with fail; refine ((p1 _).mono ?_); rintro e w1 ⟨rfl, hb1⟩
  go_wp2_with fail; refine ((bx _).mono ?_); rintro e w' ⟨rfl, rfl⟩
  go_wp2_with fail; refine ((b_y _).mono ?_); rintro e w' ⟨rfl, rfl⟩
  go_wp2_with fail; refine ((p3 _).mono ?_); rintro e w4 ⟨rfl, hb4⟩
  go_wp2_with fail; refine ((r _).mono ?_); rintro e w5 ⟨rfl, hb5⟩
  go_wp2_with fail
  go_ret
  exact ⟨rfl, bch (bch hb1 hb4) hb5⟩

set_option maxHeartbeats 1000000 in
theorem r2_by (x y : Rat) (w : World) (hx : Fits 9000 x) (hy : Fits 9000 y) (hy0 : y ≠ 0) :
    Calls Tryz.prog 119 #[.string ⟨(showR x).toArray⟩, .string ⟨(showR y).toArray⟩] w fun e w' => e = .returned (.string ⟨(showR (x / y)).toArray⟩) ∧ Below w.heap.size w w' := by
  rw [div_divInt]
  have hyn : y.num ≠ 0 := fun h => hy0 (Rat.num_eq_zero.1 h)
  have tx := fun W => r2_top_q x W (hx.mono (by omega))
  have bx := fun W => r2_bottom_q x W (hx.mono (by omega))
  have ty := fun W => r2_top_q y W (hy.mono (by omega))
  have b_y := fun W => r2_bottom_q y W (hy.mono (by omega))
  obtain ⟨hx1, hx2⟩ := hx
  obtain ⟨hy1, hy2⟩ := hy
  have d1 := dl_mul x.num y.den
  have d3 := dl_mul x.den y.num
  have p1 := fun W => r1_product x.num y.den W (by omega) (by omega)
  have p3 := fun W => r1_product x.den y.num W (by omega) (by omega)
  have r := fun W => r2_ratio (x.num * y.den) (x.den * y.num) W (by omega) (by omega) (Int.mul_ne_zero (den_ne x) hyn)
  clear hyn hy0
  generalize x.num * (y.den : Int) = u at *
  generalize (x.den : Int) * y.num = t at *
  go_enter Tryz.func119, Tryz.ntmps119
  go_wp2_with fail; refine ((tx _).mono ?_); rintro e w' ⟨rfl, rfl⟩
  go_wp2_with fail; refine ((b_y _).mono ?_); rintro e w' ⟨rfl, rfl⟩
  go_wp2_with fail; refine ((p1 _).mono ?_); rintro e w1 ⟨rfl, hb1⟩
  go_wp2_with fail; refine ((bx _).mono ?_); rintro e w' ⟨rfl, rfl⟩
  go_wp2_with fail; refine ((ty _).mono ?_); rintro e w' ⟨rfl, rfl⟩
  go_wp2_with fail; refine ((p3 _).mono ?_); rintro e w4 ⟨rfl, hb4⟩
  go_wp2_with fail; refine ((r _).mono ?_); rintro e w5 ⟨rfl, hb5⟩
  go_wp2_with fail
  go_ret
  exact ⟨rfl, bch (bch hb1 hb4) hb5⟩

set_option maxHeartbeats 1000000 in
theorem r2_turned (x : Rat) (w : World) (hx : Fits 19000 x) :
    Calls Tryz.prog 80 #[.string ⟨(showR x).toArray⟩] w fun e w' => e = .returned (.string ⟨(showR (-x)).toArray⟩) ∧ w = w' := by
  have tx := fun W => r2_top_q x W hx
  have bx := fun W => r2_bottom_q x W hx
  have n := fun W => r1_negated_z x.num W (by have := hx.1; omega)
  have hs : showR (-x) = if (x.den : Int) = 1 then itoa (-x.num) else itoa (-x.num) ++ 47 :: itoa (x.den : Int) := by
    rw [showR, itoa_nat, Rat.neg_num, Rat.neg_den]
    by_cases h : x.den = 1
    · rw [if_pos h, if_pos (by omega)]
    · rw [if_neg h, if_neg (by omega)]
  have ln := Nat.le_trans (itoa_len_dl (-x.num)) (by rw [dl_neg]; exact Nat.add_le_add_right hx.1 1)
  have ld := Nat.le_trans (itoa_len_dl (x.den : Int)) (Nat.add_le_add_right hx.2 1)
  have HS := Lib.hid hs; clear hs
  have hone : itoa 1 = [49] := itoa_one
  by_cases hd : (x.den : Int) = 1
  · have h2 := HS.out
    rw [if_pos hd] at h2
    have H2 := Lib.hid h2; clear h2 HS
    rw [hd, hone] at bx
    clear hd hone
    go_enter Tryz.func80, Tryz.ntmps80
    go_wp2_with fail; refine ((bx _).mono ?_); rintro e w' ⟨rfl, rfl⟩
    go_wp2_with fail; refine ((tx _).mono ?_); rintro e w' ⟨rfl, rfl⟩
    go_wp2_with fail; refine ((n _).mono ?_); rintro e w' ⟨rfl, rfl⟩
    go_wp2_with fail
    go_ret
    exact ⟨ret_str H2.out.symm, rfl⟩
  · have h2 := HS.out
    rw [if_neg hd] at h2
    have H2 := Lib.hid h2; clear h2 HS
    have hne : (itoa (x.den : Int) == [49]) = false := by rw [beq_eq_false_iff_ne]; exact mt (itoa_eq_one _).1 hd
    clear hd hone
    go_enter Tryz.func80, Tryz.ntmps80
    go_wp2_with fail; refine ((bx _).mono ?_); rintro e w' ⟨rfl, rfl⟩
    go_wp2_with fail; refine ((tx _).mono ?_); rintro e w' ⟨rfl, rfl⟩
    go_wp2_with fail; refine ((n _).mono ?_); rintro e w' ⟨rfl, rfl⟩
    go_wp2_with fail
    go_wp2_with fail; refine ((bx _).mono ?_); rintro e w' ⟨rfl, rfl⟩
    go_wp2_with fail
    go_ret
    exact ⟨ret_str (by rw [H2.out]), rfl⟩

theorem r2_down (x : Rat) (w : World) (hx : Fits 19000 x) :
    Calls Tryz.prog 81 #[.string ⟨(showR x).toArray⟩] w fun e w' => e = .returned (.string ⟨(itoa (flr x)).toArray⟩) ∧ Below w.heap.size w w' := by
  have tx := fun W => r2_top_q x W hx
  have bx := fun W => r2_bottom_q x W hx
  have f := fun W => r1_floor x.num x.den W hx.1 hx.2 (den_ne x)
  change ∀ W, Calls _ _ _ _ (fun e w' => e = .returned (.string ⟨(itoa (flr x)).toArray⟩) ∧ _) at f
  generalize flr x = z at *
  go_enter Tryz.func81, Tryz.ntmps81
  go_wp2_with fail; refine ((tx _).mono ?_); rintro e w' ⟨rfl, rfl⟩
  go_wp2_with fail; refine ((bx _).mono ?_); rintro e w' ⟨rfl, rfl⟩
  go_wp2_with fail; refine ((f _).mono ?_); rintro e w1 ⟨rfl, hb1⟩
  go_wp2_with fail
  go_ret
  exact ⟨rfl, hb1⟩

theorem r2_near (x : Rat) (w : World) (hx : Fits 9000 x) :
    Calls Tryz.prog 82 #[.string ⟨(showR x).toArray⟩] w fun e w' => e = .returned (.string ⟨(itoa (near x)).toArray⟩) ∧ Below w.heap.size w w' := by
  have hh : showR half = [49, 47, 50] := by
    unfold showR; rw [show half.den = 2 from rfl, show half.num = 1 from rfl, if_neg (by omega), itoa_one, dec_small (by omega)]; rfl
  have fh : Fits 9000 half := by
    have h1 : dl 1 ≤ 1 := by rw [dl_le (by omega)]; decide
    have h2 : dl 2 ≤ 1 := by rw [dl_le (by omega)]; decide
    exact ⟨by show dl 1 ≤ 9000; omega, by show dl 2 ≤ 9000; omega⟩
  have p := fun W => r2_plus x half W hx fh
  rw [hh] at p
  have d := fun W => r2_down (x + half) W ((fits_add hx fh).mono (by omega))
  change ∀ W, Calls _ _ _ _ (fun e w' => e = .returned (.string ⟨(itoa (near x)).toArray⟩) ∧ _) at d
  generalize near x = z at *
  clear hh fh
  generalize x + half = y at *
  go_enter Tryz.func82, Tryz.ntmps82
  go_wp2_with fail; refine ((p _).mono ?_); rintro e w1 ⟨rfl, hb1⟩
  go_wp2_with fail; refine ((d _).mono ?_); rintro e w2 ⟨rfl, hb2⟩
  go_wp2_with fail
  go_ret
  exact ⟨rfl, bch hb1 hb2⟩
end Go.Proofs.YtnjaikomoljmjaaGreatDoor
