/-
  Decimal texts of naturals and integers, as lists of bytes: reading undoes writing, writing undoes reading of canonical texts.
-/
import Derived.Lib.ItoaMem
import Derived.Lib.Strings
namespace Lum
open Go.Lib (decDigits itoa)

abbrev Txt := List UInt8

/-- A digit. -/
def isDig (c : UInt8) : Bool := decide (48 ≤ c.toNat) && decide (c.toNat ≤ 57)

/-- The number that digits spell. -/
def natOf (l : Txt) : Nat := l.foldl (fun n c => 10 * n + (c.toNat - 48)) 0

theorem natOf_foldl (l : Txt) (a : Nat) : l.foldl (fun n c => 10 * n + (c.toNat - 48)) a = a * 10 ^ l.length + natOf l := by
  induction l generalizing a with
  | nil => simp [natOf]
  | cons c r ih =>
    have h2 : natOf (c :: r) = (c.toNat - 48) * 10 ^ r.length + natOf r := by
      show List.foldl _ _ _ = _
      rw [List.foldl_cons, ih]; simp
    rw [List.foldl_cons, ih, h2, List.length_cons, Nat.pow_succ]
    grind

theorem natOf_nil : natOf [] = 0 := rfl
theorem natOf_append (a b : Txt) : natOf (a ++ b) = natOf a * 10 ^ b.length + natOf b := by
  rw [natOf, List.foldl_append, natOf_foldl]; rfl
theorem natOf_one (c : UInt8) : natOf [c] = c.toNat - 48 := by simp [natOf]
theorem natOf_cons (c : UInt8) (l : Txt) : natOf (c :: l) = (c.toNat - 48) * 10 ^ l.length + natOf l := by
  have := natOf_append [c] l
  rwa [natOf_one] at this
theorem natOf_snoc (l : Txt) (c : UInt8) : natOf (l ++ [c]) = 10 * natOf l + (c.toNat - 48) := by
  rw [natOf_append, natOf_one]; simp; omega

theorem dig_toNat {d : Nat} (h : d < 10) : (UInt8.ofNat (48 + d)).toNat = 48 + d := by
  simp; omega
theorem isDig_of {d : Nat} (h : d < 10) : isDig (UInt8.ofNat (48 + d)) = true := by
  unfold isDig; rw [dig_toNat h]; simp; omega
theorem isDig_iff (c : UInt8) : isDig c = true ↔ 48 ≤ c.toNat ∧ c.toNat ≤ 57 := by simp [isDig]
theorem dig_eq {c : UInt8} (h : isDig c = true) : c = UInt8.ofNat (48 + (c.toNat - 48)) := by
  obtain ⟨h1, h2⟩ := (isDig_iff c).1 h
  apply UInt8.toNat_inj.1
  rw [dig_toNat (by omega)]; omega

theorem dec_small {u : Nat} (h : u < 10) : decDigits u = [UInt8.ofNat (48 + u)] := by rw [decDigits, dif_pos h]
theorem dec_big {u : Nat} (h : ¬ u < 10) : decDigits u = decDigits (u / 10) ++ [UInt8.ofNat (48 + u % 10)] := by rw [decDigits, dif_neg h]

theorem dec_digits (u : Nat) : (decDigits u).all isDig = true := by
  induction u using Nat.strongRecOn with
  | _ u ih =>
    by_cases h : u < 10
    · rw [dec_small h]; simp only [List.all_cons, List.all_nil, Bool.and_true]; exact isDig_of h
    · rw [dec_big h, List.all_append, ih _ (by omega)]
      simp only [List.all_cons, List.all_nil, Bool.and_true, Bool.true_and]; exact isDig_of (by omega)
theorem natOf_dec (u : Nat) : natOf (decDigits u) = u := by
  induction u using Nat.strongRecOn with
  | _ u ih =>
    by_cases h : u < 10
    · rw [dec_small h, natOf_one, dig_toNat h]; omega
    · rw [dec_big h, natOf_snoc, ih _ (by omega), dig_toNat (by omega)]; omega
theorem dec_ne (u : Nat) : decDigits u ≠ [] := by
  by_cases h : u < 10
  · rw [dec_small h]; simp
  · rw [dec_big h]; simp
theorem dec_zero : decDigits 0 = [48] := by rw [dec_small (by omega)]; rfl
theorem dec_head (u : Nat) (h0 : u ≠ 0) : ∀ c, (decDigits u).head? = some c → c ≠ 48 := by
  induction u using Nat.strongRecOn with
  | _ u ih =>
    intro c hc
    by_cases h : u < 10
    · rw [dec_small h] at hc; simp only [List.head?_cons, Option.some.injEq] at hc
      intro e; have h1 := dig_toNat h; rw [hc, e] at h1; simp at h1; omega
    · rw [dec_big h, List.head?_append] at hc
      rcases hd : (decDigits (u / 10)).head? with _ | d
      · exact absurd (List.head?_eq_none_iff.1 hd) (dec_ne _)
      · rw [hd] at hc; simp at hc; subst hc; exact ih _ (by omega) (by omega) _ hd
theorem dec_inj {a b : Nat} (h : decDigits a = decDigits b) : a = b := by rw [← natOf_dec a, h, natOf_dec]

theorem natOf_lt (l : Txt) (h : l.all isDig = true) : natOf l < 10 ^ l.length := by
  induction l with
  | nil => simp [natOf]
  | cons c r ih =>
    simp only [List.all_cons, Bool.and_eq_true] at h
    have h1 := (isDig_iff c).1 h.1
    have h2 := ih h.2
    rw [natOf_cons, List.length_cons, Nat.pow_succ]
    have : (c.toNat - 48) * 10 ^ r.length ≤ 9 * 10 ^ r.length := Nat.mul_le_mul_right _ (by omega)
    omega
/-- Canonical digits: at least one, and no leading 0 but alone. -/
def canon (l : Txt) : Bool := !l.isEmpty && l.all isDig && (l.head? != some 48 || l == [48])

theorem le_natOf (c : UInt8) (r : Txt) (h : 48 < c.toNat) : 10 ^ r.length ≤ natOf (c :: r) := by
  rw [natOf_cons]
  have : 1 * 10 ^ r.length ≤ (c.toNat - 48) * 10 ^ r.length := Nat.mul_le_mul_right _ (by omega)
  omega
theorem dec_natOf_aux (l : Txt) (hd : l.all isDig = true) (c : UInt8) (hc : l.head? = some c) (h0 : c ≠ 48) : decDigits (natOf l) = l := by
  generalize hn : l.length = n
  induction n using Nat.strongRecOn generalizing l c with
  | _ n ih =>
    rcases List.eq_nil_or_concat l with rfl | ⟨r, x, rfl⟩
    · simp at hc
    · simp only [List.concat_eq_append] at *
      simp only [List.all_append, List.all_cons, List.all_nil, Bool.and_true, Bool.and_eq_true] at hd
      have hx := (isDig_iff x).1 hd.2
      rw [natOf_snoc]
      cases r with
      | nil =>
        simp [natOf]
        rw [dec_small (by omega), ← dig_eq hd.2]
      | cons y r' =>
        simp at hc; subst hc
        have hy := (isDig_iff y).1 (by simp at hd; exact hd.1.1)
        have hne : y.toNat ≠ 48 := fun e => h0 (UInt8.toNat_inj.1 (by simpa using e))
        have h1 := le_natOf y r' (by omega)
        have h2 : 1 ≤ 10 ^ r'.length := Nat.one_le_pow _ _ (by omega)
        rw [dec_big (by omega)]
        have e1 : (10 * natOf (y :: r') + (x.toNat - 48)) / 10 = natOf (y :: r') := by omega
        have e2 : (10 * natOf (y :: r') + (x.toNat - 48)) % 10 = x.toNat - 48 := by omega
        rw [e1, e2, ih (y :: r').length (by simp at hn; simp; omega) (y :: r') hd.1 y rfl h0 rfl, ← dig_eq hd.2]
theorem dec_natOf (l : Txt) (h : canon l = true) : decDigits (natOf l) = l := by
  simp only [canon, Bool.and_eq_true, Bool.or_eq_true, bne_iff_ne, beq_iff_eq, Bool.not_eq_true'] at h
  obtain ⟨⟨h1, h2⟩, h3⟩ := h
  rcases h3 with h3 | rfl
  · cases l with
    | nil => simp at h1
    | cons c r => exact dec_natOf_aux _ h2 c rfl (fun e => h3 (by simp [e]))
  · simp [natOf, dec_zero]
theorem canon_dec (u : Nat) : canon (decDigits u) = true := by
  simp only [canon, Bool.and_eq_true, Bool.or_eq_true, bne_iff_ne, beq_iff_eq, Bool.not_eq_true']
  refine ⟨⟨by simpa [List.isEmpty_iff] using dec_ne u, dec_digits u⟩, ?_⟩
  by_cases h : u = 0
  · subst h; exact .inr dec_zero
  · exact .inl fun e => dec_head u h _ e rfl
theorem dec_length_lt (u k : Nat) (hk : 1 ≤ k) : (decDigits u).length ≤ k ↔ u < 10 ^ k := by
  constructor
  · intro h
    have := natOf_lt _ (dec_digits u)
    rw [natOf_dec] at this
    exact Nat.lt_of_lt_of_le this (Nat.pow_le_pow_right (by omega) h)
  · intro h
    by_cases h0 : u = 0
    · subst h0; rw [dec_zero]; simpa using hk
    · rcases hd : decDigits u with _ | ⟨c, r⟩
      · simp
      · have hc := dec_head u h0 c (by rw [hd]; rfl)
        have hdg := dec_digits u; rw [hd] at hdg; simp at hdg
        have h1 := (isDig_iff c).1 hdg.1
        have hne : c.toNat ≠ 48 := fun e => hc (UInt8.toNat_inj.1 (by simpa using e))
        have h2 := le_natOf c r (by omega)
        have h3 := natOf_dec u; rw [hd] at h3; rw [h3] at h2
        have := (Nat.pow_lt_pow_iff_right (a := 10) (by omega)).1 (Nat.lt_of_le_of_lt h2 h)
        simp; omega
theorem dec_length_pos (u : Nat) : 1 ≤ (decDigits u).length := by
  have := dec_ne u; cases h : decDigits u with
  | nil => exact absurd h this
  | cons => simp

/-! ### Integers -/

/-- The digits of an integer's text, without the sign. -/
def body (l : Txt) : Txt := if l.head? = some 45 then l.tail else l
def minus (l : Txt) : Bool := l.head? == some 45
/-- The integer that a text spells. -/
def zOf (l : Txt) : Int := if minus l then -(natOf (body l) : Int) else natOf (body l)
/-- The text is that of an integer, of any length. -/
def shaped (l : Txt) : Bool := canon (body l) && !(minus l && (body l).head? == some 48)

theorem dec_head_ne45 (u : Nat) : (decDigits u).head? ≠ some 45 := by
  intro h
  have hd := dec_digits u
  cases e : decDigits u with
  | nil => exact dec_ne u e
  | cons c r => rw [e] at h hd; simp at h hd; subst h; exact absurd hd.1 (by decide)
theorem itoa_nat (n : Nat) : itoa (n : Int) = decDigits n := Go.Lib.itoa_nonneg n
theorem itoa_negsucc (n : Nat) (h : 1 ≤ n) : itoa (-(n : Int)) = 45 :: decDigits n := Go.Lib.itoa_neg n h
theorem body_itoa (z : Int) : body (itoa z) = decDigits z.natAbs := by
  unfold itoa
  split
  · simp [body]
  · rw [body, if_neg (dec_head_ne45 _)]; congr 1; omega
theorem minus_itoa (z : Int) : minus (itoa z) = decide (z < 0) := by
  unfold itoa
  split
  · simp [minus, *]
  · have := dec_head_ne45 z.toNat
    simp only [minus]; rw [decide_eq_false (by assumption)]; simpa using this
theorem zOf_itoa (z : Int) : zOf (itoa z) = z := by
  rw [zOf, body_itoa, minus_itoa, natOf_dec]
  split <;> simp_all <;> omega
theorem itoa_inj {a b : Int} (h : itoa a = itoa b) : a = b := by rw [← zOf_itoa a, h, zOf_itoa]
theorem shaped_itoa (z : Int) : shaped (itoa z) = true := by
  rw [shaped, body_itoa, minus_itoa, canon_dec]
  simp only [Bool.true_and, Bool.not_eq_true', Bool.and_eq_false_iff, decide_eq_false_iff_not]
  by_cases h : z < 0
  · right
    have := dec_head z.natAbs (by omega)
    cases e : (decDigits z.natAbs).head? with
    | none => rfl
    | some c => have := this c e; simp [this]
  · left; exact h
theorem itoa_zOf (l : Txt) (h : shaped l = true) : itoa (zOf l) = l := by
  simp only [shaped, Bool.and_eq_true, Bool.not_eq_true'] at h
  have h1 := dec_natOf _ h.1
  rw [zOf]
  cases hm : minus l with
  | true =>
    simp only [hm, Bool.true_and] at h
    have hl : l = 45 :: body l := by
      simp only [minus, beq_iff_eq] at hm
      cases l with
      | nil => simp at hm
      | cons c r => simp at hm; subst hm; simp [body]
    have h0 : natOf (body l) ≠ 0 := by
      intro e; rw [e, dec_zero] at h1; rw [← h1] at h; simp at h
    simp only [if_true]
    rw [itoa_negsucc _ (by omega), h1]; exact hl.symm
  | false =>
    simp only [Bool.false_eq_true, if_false]
    rw [itoa_nat, h1]
    simp only [minus, beq_eq_false_iff_ne] at hm
    rw [body, if_neg hm]
theorem shaped_iff (l : Txt) : shaped l = true ↔ ∃ z, l = itoa z :=
  ⟨fun h => ⟨_, (itoa_zOf l h).symm⟩, fun ⟨z, e⟩ => e ▸ shaped_itoa z⟩
theorem itoa_ne (z : Int) : itoa z ≠ [] := by
  unfold itoa; split
  · simp
  · exact dec_ne _
theorem itoa_zero : itoa 0 = [48] := by rw [show (0 : Int) = ((0 : Nat) : Int) from rfl, itoa_nat, dec_zero]
theorem itoa_one : itoa 1 = [49] := by rw [show (1 : Int) = ((1 : Nat) : Int) from rfl, itoa_nat, dec_small (by omega)]; rfl
theorem itoa_len (z : Int) : (itoa z).length ≤ (decDigits z.natAbs).length + 1 := by
  unfold itoa; split
  · simp
  · have : z.toNat = z.natAbs := by omega
    rw [this]; omega
theorem dig_ne47 {l : Txt} (h : l.all isDig = true) : (47 : UInt8) ∉ l := by
  intro hm; rw [List.all_eq_true] at h; exact absurd (h _ hm) (by decide)
theorem itoa_ne47 (z : Int) : (47 : UInt8) ∉ itoa z := by
  unfold itoa; split
  · simp only [List.mem_cons, not_or]; exact ⟨by decide, dig_ne47 (dec_digits _)⟩
  · exact dig_ne47 (dec_digits _)

#print axioms itoa_zOf
end Lum
