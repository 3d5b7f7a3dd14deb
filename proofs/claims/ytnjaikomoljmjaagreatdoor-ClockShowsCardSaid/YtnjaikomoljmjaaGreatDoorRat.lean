/-
  Texts of rational numbers: what the chapter's Check says of a text, and the number that a right text spells.
-/
import Derived.Test.YtnjaikomoljmjaaGreatDoorDec
namespace Lum
open Go.Lib (decDigits itoa)

/-- What has at most 4096 digits. -/
def LIM : Nat := 10 ^ 4096
def long (z : Int) : Bool := decide (4096 < (decDigits z.natAbs).length)
theorem long_iff (z : Int) : long z = false ↔ z.natAbs < LIM := by
  unfold long LIM
  rw [decide_eq_false_iff_not, Nat.not_lt, dec_length_lt _ _ (by omega)]
theorem long_iff' (z : Int) : long z = true ↔ LIM ≤ z.natAbs := by
  have := long_iff z
  cases h : long z <;> simp_all

/-- The text of a rational number. -/
def showR (q : Rat) : Txt := if q.den = 1 then itoa q.num else itoa q.num ++ 47 :: decDigits q.den
def hasSlash (l : Txt) : Bool := l.contains 47
def top (l : Txt) : Txt := l.takeWhile (· != 47)
def bot (l : Txt) : Txt := if hasSlash l then (l.dropWhile (· != 47)).tail else [49]

theorem takeWhile_ne (l r : Txt) (h : (47 : UInt8) ∉ l) : (l ++ 47 :: r).takeWhile (· != 47) = l := by
  induction l with
  | nil => simp
  | cons c l ih =>
    simp at h
    rw [List.cons_append, List.takeWhile_cons, if_pos (by simpa using fun e : c = 47 => h.1 e.symm), ih h.2]
theorem dropWhile_ne (l r : Txt) (h : (47 : UInt8) ∉ l) : (l ++ 47 :: r).dropWhile (· != 47) = 47 :: r := by
  induction l with
  | nil => simp
  | cons c l ih =>
    simp at h
    rw [List.cons_append, List.dropWhile_cons, if_pos (by simpa using fun e : c = 47 => h.1 e.symm), ih h.2]
theorem takeWhile_all (l : Txt) (h : (47 : UInt8) ∉ l) : l.takeWhile (· != 47) = l := by
  induction l with
  | nil => simp
  | cons c l ih =>
    simp at h
    rw [List.takeWhile_cons, if_pos (by simpa using fun e : c = 47 => h.1 e.symm), ih h.2]
theorem split_slash (l : Txt) (h : hasSlash l = true) : l = top l ++ 47 :: bot l := by
  rw [bot, if_pos h, top]
  induction l with
  | nil => simp [hasSlash] at h
  | cons c l ih =>
    by_cases e : c = 47
    · subst e; simp
    · rw [List.takeWhile_cons, List.dropWhile_cons, if_pos (by simpa using e), if_pos (by simpa using e), List.cons_append]
      rw [← ih (by simp [hasSlash] at h ⊢; rcases h with h | h; exact absurd h.symm e; exact h)]
theorem top_noslash (l : Txt) (h : hasSlash l = false) : top l = l := takeWhile_all l (by simpa [hasSlash] using h)
theorem bot_noslash (l : Txt) (h : hasSlash l = false) : bot l = [49] := by rw [bot, if_neg (by simp [h])]
theorem top_ne47 (l : Txt) : (47 : UInt8) ∉ top l := by
  unfold top
  induction l with
  | nil => simp
  | cons c l ih =>
    rw [List.takeWhile_cons]; split
    · simp only [List.mem_cons, not_or]; exact ⟨fun e => by simp_all, ih⟩
    · simp

theorem hasSlash_showR (q : Rat) : hasSlash (showR q) = decide (q.den ≠ 1) := by
  unfold showR hasSlash
  split
  · have := itoa_ne47 q.num; simp_all
  · simp_all
theorem top_showR (q : Rat) : top (showR q) = itoa q.num := by
  unfold showR top
  split
  · exact takeWhile_all _ (itoa_ne47 _)
  · exact takeWhile_ne _ _ (itoa_ne47 _)
theorem bot_showR (q : Rat) : bot (showR q) = decDigits q.den := by
  unfold bot
  rw [hasSlash_showR]
  split
  · rename_i h
    simp only [ne_eq, decide_eq_true_eq] at h
    rw [showR, if_neg h, dropWhile_ne _ _ (itoa_ne47 _)]; rfl
  · rename_i h
    simp only [ne_eq, decide_eq_true_eq, Decidable.not_not] at h
    rw [h, dec_small (by omega)]; rfl

/-- The number that a text spells. -/
def valR (l : Txt) : Rat := mkRat (zOf (top l)) (zOf (bot l)).natAbs
theorem zOf_dec (n : Nat) : zOf (decDigits n) = n := by rw [← itoa_nat, zOf_itoa]
theorem valR_showR (q : Rat) : valR (showR q) = q := by
  rw [valR, top_showR, bot_showR, zOf_itoa, zOf_dec, Int.natAbs_natCast, Rat.mkRat_self]
theorem showR_inj {a b : Rat} (h : showR a = showR b) : a = b := by rw [← valR_showR a, h, valR_showR]

/-- What Check returns: the number of the error. -/
def ratCheck (l : Txt) : Int :=
  if shaped (top l) = false ∨ shaped (bot l) = false ∨ (hasSlash l = true ∧ zOf (bot l) ≤ 1) then 3
  else if long (zOf (top l)) = true ∨ long (zOf (bot l)) = true then 23
  else if Nat.gcd (zOf (top l)).natAbs (zOf (bot l)).natAbs ≠ 1 then 3 else 0

/-- A rational number with at most 4096 digits in each part. -/
def Fit (q : Rat) : Prop := q.num.natAbs < LIM ∧ q.den < LIM

theorem ratCheck_showR (q : Rat) (h : Fit q) : ratCheck (showR q) = 0 := by
  rw [ratCheck, top_showR, bot_showR, hasSlash_showR, zOf_itoa, zOf_dec, shaped_itoa, ← itoa_nat, shaped_itoa, if_neg, if_neg, if_neg]
  · have := q.reduced; simpa [Nat.Coprime] using this
  · rw [(long_iff _).2 h.1, (long_iff _).2 (by simpa using h.2)]; simp
  · have := q.den_pos; simp; omega
theorem ratCheck_zero (l : Txt) (h : ratCheck l = 0) : ∃ q, l = showR q ∧ Fit q := by
  rw [ratCheck] at h
  split at h
  · cases h
  rename_i h1
  split at h
  · cases h
  rename_i h2
  split at h
  · cases h
  rename_i h3
  simp only [not_or, Bool.not_eq_false, not_and, Bool.not_eq_true, Int.not_le, ne_eq, Decidable.not_not] at h1 h2 h3
  obtain ⟨a1, a2, a3⟩ := h1
  have b1 := itoa_zOf _ a1
  have b2 := itoa_zOf _ a2
  by_cases hs : hasSlash l = true
  · have a4 := a3 hs
    obtain ⟨d, hd⟩ : ∃ d : Nat, zOf (bot l) = d := ⟨(zOf (bot l)).toNat, by omega⟩
    refine ⟨⟨zOf (top l), d, by omega, by rw [hd] at h3; simpa using h3⟩, ?_, (long_iff _).1 h2.1, ?_⟩
    · have e := split_slash l hs
      rw [hd, itoa_nat] at b2
      rw [showR, if_neg (by simp; omega)]
      simp only
      rw [b1, b2]; exact e
    · have := (long_iff _).1 h2.2; rw [hd] at this; simpa using this
  · simp only [Bool.not_eq_true] at hs
    refine ⟨⟨zOf (top l), 1, by omega, by simp⟩, ?_, (long_iff _).1 h2.1, ?_⟩
    · rw [showR, if_pos rfl]; simp only
      rw [b1, top_noslash l hs]
    · show 1 < LIM
      have h2b := (long_iff _).1 h2.2
      rw [bot_noslash l hs] at h2b
      have : (zOf [49]).natAbs = 1 := by decide
      omega
theorem ratCheck_fit (q : Rat) (h : ratCheck (showR q) = 0) : Fit q := by
  obtain ⟨q', e, f⟩ := ratCheck_zero _ h
  rw [showR_inj e]; exact f
theorem ratCheck_cases (l : Txt) : ratCheck l = 0 ∨ ratCheck l = 3 ∨ ratCheck l = 23 := by
  unfold ratCheck; split; simp; split; simp; split <;> simp

/-! ### The operations -/

/-- The result of an operation on two right texts: the first error of the texts, ErrLarge if one of the integers that are computed is too long, the number otherwise. -/
def rTwo (a b : Txt) (r : Rat → Rat → Txt × Int) : Txt × Int :=
  if ratCheck a ≠ 0 then ([], ratCheck a) else if ratCheck b ≠ 0 then ([], ratCheck b) else r (valR a) (valR b)

def qAdd (x y : Rat) : Txt × Int :=
  if long (x.num * y.den) || long (y.num * x.den) || long (x.num * y.den + y.num * x.den) || long ((x.den : Int) * y.den) then ([], 23) else (showR (x + y), 0)
def qSub (x y : Rat) : Txt × Int :=
  if long (x.num * y.den) || long (y.num * x.den) || long (x.num * y.den - y.num * x.den) || long ((x.den : Int) * y.den) then ([], 23) else (showR (x - y), 0)
def qMul (x y : Rat) : Txt × Int :=
  if long (x.num * y.num) || long ((x.den : Int) * y.den) then ([], 23) else (showR (x * y), 0)
def qDiv (x y : Rat) : Txt × Int :=
  if y = 0 then ([], 15) else if long (x.num * y.den) || long ((x.den : Int) * y.num) then ([], 23) else (showR (x / y), 0)
/-- -1, 0 or 1. -/
def sgn (x y : Rat) : Int := if x < y then -1 else if y < x then 1 else 0
def qCmp (x y : Rat) : Int × Int :=
  if long (x.num * y.den) || long (y.num * x.den) then (0, 23) else (sgn x y, 0)

theorem showR_divInt (n d : Int) (hd : d ≠ 0) :
    showR (Rat.divInt n d) = if d.natAbs / Nat.gcd n.natAbs d.natAbs = 1 then itoa (d.sign * n / Nat.gcd n.natAbs d.natAbs)
      else itoa (d.sign * n / Nat.gcd n.natAbs d.natAbs) ++ 47 :: decDigits (d.natAbs / Nat.gcd n.natAbs d.natAbs) := by
  rw [showR, Rat.den_divInt, Rat.num_divInt, if_neg hd]
  have : Int.gcd d n = Nat.gcd n.natAbs d.natAbs := by rw [Int.gcd, Nat.gcd_comm]
  rw [this]

theorem add_divInt (x y : Rat) : x + y = Rat.divInt (x.num * y.den + y.num * x.den) ((x.den : Int) * y.den) := by
  rw [Rat.add_def', ← Rat.divInt_ofNat]; simp
theorem sub_divInt (x y : Rat) : x - y = Rat.divInt (x.num * y.den - y.num * x.den) ((x.den : Int) * y.den) := by
  rw [Rat.sub_def', ← Rat.divInt_ofNat]; simp
theorem mul_divInt (x y : Rat) : x * y = Rat.divInt (x.num * y.num) ((x.den : Int) * y.den) := by
  rw [Rat.mul_def', ← Rat.divInt_ofNat]; simp
theorem div_divInt (x y : Rat) : x / y = Rat.divInt (x.num * y.den) ((x.den : Int) * y.num) := by
  rw [Rat.div_def, Rat.inv_def, ← Rat.num_divInt_den x, Rat.divInt_mul_divInt, Rat.num_divInt_den]
theorem lt_cross (x y : Rat) : x < y ↔ x.num * y.den < y.num * x.den := Rat.lt_iff x y

#print axioms ratCheck_zero
#print axioms div_divInt
end Lum
