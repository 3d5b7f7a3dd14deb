/-
  Words in a base: lists of words, the lowest one first, and the naturals that they stand for; and the words of nine decimal digits.
-/
import Derived.Test.YtnjaikomoljmjaaGreatDoorRat
namespace Lum
open Go.Lib (decDigits itoa)

def B9 : Nat := 1000000000
theorem B9_pos : 0 < B9 := by decide
theorem B9_eq : B9 = 10 ^ 9 := by decide
theorem B9_num : B9 = 1000000000 := rfl

/-- The value of words. -/
def mv (b : Nat) : List Nat → Nat
  | [] => 0
  | d :: r => d + b * mv b r
theorem mv_append (b : Nat) (x y : List Nat) : mv b (x ++ y) = mv b x + b ^ x.length * mv b y := by
  induction x with
  | nil => simp [mv]
  | cons d r ih => simp only [List.cons_append, mv, ih, List.length_cons, Nat.pow_succ]; grind
theorem mv_snoc (b : Nat) (a : List Nat) (d : Nat) : mv b (a ++ [d]) = mv b a + b ^ a.length * d := by rw [mv_append]; simp [mv]
theorem mv_lt_step (b d m k : Nat) (h1 : d < b) (h2 : m < b ^ k) : d + b * m < b ^ (k + 1) := by
  have h3 : b * (m + 1) ≤ b * b ^ k := Nat.mul_le_mul_left _ h2
  rw [Nat.pow_succ, Nat.mul_comm (b ^ k) b]
  rw [Nat.mul_add] at h3
  omega
theorem mv_lt (b : Nat) (l : List Nat) (h : ∀ d ∈ l, d < b) : mv b l < b ^ l.length := by
  induction l with
  | nil => simp [mv]
  | cons d r ih =>
    have h1 := h d (by simp)
    have h2 := ih fun x hx => h x (by simp [hx])
    simp only [mv, List.length_cons]
    exact mv_lt_step _ _ _ _ h1 h2
theorem mv_zeros (b k : Nat) : mv b (List.replicate k 0) = 0 := by
  induction k with
  | zero => rfl
  | succ k ih => simp [List.replicate_succ, mv, ih]
/-- A word of the value, where all words are less than the base. -/
theorem mv_getD (b : Nat) (hb : 0 < b) (l : List Nat) (h : ∀ d ∈ l, d < b) (i : Nat) : l.getD i 0 = mv b l / b ^ i % b := by
  induction l generalizing i with
  | nil => simp [mv]
  | cons d r ih =>
    have hd := h d (by simp)
    have ih := fun i => ih (fun x hx => h x (by simp [hx])) i
    cases i with
    | zero => simp [mv, Nat.add_mul_mod_self_left, Nat.mod_eq_of_lt hd]
    | succ i =>
      rw [List.getD_cons_succ, ih, mv, Nat.pow_succ, Nat.mul_comm (b ^ i) b, ← Nat.div_div_eq_div_mul, Nat.add_mul_div_left _ _ hb, Nat.div_eq_of_lt hd, Nat.zero_add]
/-- A word is changed. -/
theorem mv_set (b : Nat) (l : List Nat) (i d : Nat) (h : i < l.length) : mv b (l.set i d) + b ^ i * l.getD i 0 = mv b l + b ^ i * d := by
  induction l generalizing i with
  | nil => simp at h
  | cons x r ih =>
    cases i with
    | zero => simp [mv]; omega
    | succ i =>
      have := ih i (by simpa using h)
      simp only [List.set_cons_succ, mv, List.getD_cons_succ, Nat.pow_succ]
      grind
theorem mod_succ (b n i : Nat) : n % b ^ (i + 1) = n % b ^ i + b ^ i * (n / b ^ i % b) := by
  rw [Nat.pow_succ]; exact Nat.mod_mul
theorem mod_all (b n i : Nat) (h : n < b ^ i) : n % b ^ i = n := Nat.mod_eq_of_lt h

/-- The words of a natural in base 10^9. -/
def magL (n : Nat) : List Nat := if _h : n = 0 then [] else n % B9 :: magL (n / B9)
termination_by n
decreasing_by exact Nat.div_lt_self (by omega) (by decide)

theorem magL_zero : magL 0 = [] := by rw [magL]; simp
theorem magL_pos {n : Nat} (h : n ≠ 0) : magL n = n % B9 :: magL (n / B9) := by rw [magL, dif_neg h]
theorem magL_lt (n : Nat) : ∀ d ∈ magL n, d < B9 := by
  induction n using Nat.strongRecOn with
  | _ n ih =>
    by_cases h : n = 0
    · subst h; simp [magL_zero]
    · rw [magL_pos h]
      intro d hd
      rcases List.mem_cons.1 hd with rfl | hd
      · exact Nat.mod_lt _ B9_pos
      · exact ih _ (Nat.div_lt_self (by omega) (by decide)) d hd
theorem mv_magL (n : Nat) : mv B9 (magL n) = n := by
  induction n using Nat.strongRecOn with
  | _ n ih =>
    by_cases h : n = 0
    · subst h; simp [magL_zero, mv]
    · rw [magL_pos h, mv, ih _ (Nat.div_lt_self (by omega) (by decide))]
      exact Nat.mod_add_div n B9
theorem magL_getD (n i : Nat) : (magL n).getD i 0 = n / B9 ^ i % B9 := by
  rw [mv_getD B9 B9_pos _ (magL_lt n), mv_magL]
theorem magL_len (n k : Nat) : (magL n).length ≤ k ↔ n < B9 ^ k := by
  induction k generalizing n with
  | zero =>
    by_cases h : n = 0
    · subst h; simp [magL_zero]
    · rw [magL_pos h]; simp; omega
  | succ k ih =>
    by_cases h : n = 0
    · subst h; simp [magL_zero]; exact Nat.pow_pos B9_pos
    · rw [magL_pos h, List.length_cons, Nat.add_le_add_iff_right, ih, Nat.div_lt_iff_lt_mul B9_pos, Nat.pow_succ]
theorem magL_ne (n : Nat) (h : n ≠ 0) : 0 < (magL n).length := by rw [magL_pos h]; simp
theorem magL_nil {n : Nat} : (magL n).length = 0 ↔ n = 0 := by
  constructor
  · intro h; by_cases h0 : n = 0
    · exact h0
    · have := magL_ne n h0; omega
  · rintro rfl; simp [magL_zero]
theorem magL_top (n : Nat) (h : n ≠ 0) : B9 ^ ((magL n).length - 1) ≤ n := by
  have h0 := magL_ne n h
  rcases Nat.lt_or_ge n (B9 ^ ((magL n).length - 1)) with h1 | h1
  · have := (magL_len n _).2 h1; omega
  · exact h1
theorem lt_len (n : Nat) : n < B9 ^ (magL n).length := (magL_len n _).1 (Nat.le_refl _)
theorem magL_mono {m n : Nat} (h : m ≤ n) : (magL m).length ≤ (magL n).length := (magL_len _ _).2 (Nat.lt_of_le_of_lt h (lt_len n))

/-- Words without zeros at the end are those of their value. -/
theorem magL_mv (l : List Nat) (h : ∀ d ∈ l, d < B9) (h0 : l.getLast? ≠ some 0) : magL (mv B9 l) = l := by
  induction l with
  | nil => simp [mv, magL_zero]
  | cons d r ih =>
    have hd := h d (by simp)
    have hr : r.getLast? ≠ some 0 := by
      cases r with
      | nil => simp
      | cons x y => simpa [List.getLast?_cons_cons] using h0
    have ih' := ih (fun x hx => h x (by simp [hx])) hr
    have hne : mv B9 (d :: r) ≠ 0 := by
      simp only [mv]
      intro e
      have e1 : d = 0 := by omega
      have e2 : mv B9 r = 0 := by
        rcases Nat.eq_zero_or_pos (mv B9 r) with h | h
        · exact h
        · have := Nat.mul_pos B9_pos h; omega
      rw [e2, magL_zero] at ih'
      subst e1; rw [← ih'] at h0; simp at h0
    rw [magL_pos hne]
    have e1 : mv B9 (d :: r) % B9 = d := by rw [mv, Nat.add_mul_mod_self_left, Nat.mod_eq_of_lt hd]
    have e2 : mv B9 (d :: r) / B9 = mv B9 r := by rw [mv, Nat.add_mul_div_left _ _ B9_pos, Nat.div_eq_of_lt hd]; omega
    rw [e1, e2, ih']
/-- What cut leaves: behind the words of the value there are zeros alone. -/
theorem cut_at (l : List Nat) (h : ∀ d ∈ l, d < B9) (k : Nat) (hk : k ≤ l.length) (hz : ∀ i, k ≤ i → i < l.length → l.getD i 0 = 0)
    (hl : k = 0 ∨ l.getD (k - 1) 0 ≠ 0) : magL (mv B9 l) = l.take k := by
  have e : l = l.take k ++ List.replicate (l.length - k) 0 := by
    apply List.ext_getElem
    · simp; omega
    · intro i h1 h2
      by_cases hi : i < k
      · rw [List.getElem_append_left (by simp; omega)]; simp
      · rw [List.getElem_append_right (by simp; omega)]
        have := hz i (by omega) h1
        rw [List.getElem_replicate]
        simpa [List.getD_eq_getElem?_getD, h1] using this
  have e2 : mv B9 l = mv B9 (l.take k) := by
    conv => lhs; rw [e]
    rw [mv_append, mv_zeros]; simp
  rw [e2]
  refine magL_mv _ (fun d hd => h d (List.mem_of_mem_take hd)) ?_
  rcases hl with rfl | hl
  · simp
  · by_cases h0 : k = 0
    · subst h0; simp
    · rw [List.getLast?_eq_getElem?, List.length_take, Nat.min_eq_left hk, List.getElem?_take, if_pos (by omega)]
      intro e3
      rw [List.getD_eq_getElem?_getD, e3] at hl
      simp at hl

/-! ### Digits and words -/

theorem natOf_zeros (k : Nat) (l : Txt) : natOf (List.replicate k 48 ++ l) = natOf l := by
  induction k with
  | zero => simp
  | succ k ih => rw [List.replicate_succ, List.cons_append, natOf_cons, ih]; simp
/-- k digits of a word, zeros ahead. -/
def padk (k w : Nat) : Txt := List.replicate (k - (decDigits w).length) 48 ++ decDigits w
theorem padk_len (k w : Nat) (hk : 1 ≤ k) (h : w < 10 ^ k) : (padk k w).length = k := by
  have := (dec_length_lt w k hk).2 h
  simp [padk]; omega
theorem padk_digits (k w : Nat) : (padk k w).all isDig = true := by
  rw [padk, List.all_append, dec_digits]
  simp only [Bool.and_true, List.all_eq_true, List.mem_replicate]
  rintro c ⟨_, rfl⟩; decide
theorem dec_word (k a w : Nat) (hk : 1 ≤ k) (ha : a ≠ 0) (hw : w < 10 ^ k) : decDigits (a * 10 ^ k + w) = decDigits a ++ padk k w := by
  have h1 : canon (decDigits a ++ padk k w) = true := by
    simp only [canon, Bool.and_eq_true, Bool.or_eq_true, bne_iff_ne, beq_iff_eq, Bool.not_eq_true']
    refine ⟨⟨?_, ?_⟩, .inl ?_⟩
    · have := dec_ne a; cases h : decDigits a with
      | nil => exact absurd h this
      | cons => simp
    · rw [List.all_append, dec_digits, padk_digits]; rfl
    · rw [List.head?_append]
      rcases hd : (decDigits a).head? with _ | d
      · exact absurd (List.head?_eq_none_iff.1 hd) (dec_ne _)
      · simpa using dec_head a ha d hd
  have h2 : natOf (decDigits a ++ padk k w) = a * 10 ^ k + w := by
    rw [natOf_append, natOf_dec, padk_len k w hk hw, padk, natOf_zeros, natOf_dec]
  rw [← h2, dec_natOf _ h1]
/-- Digits in the middle of a text. -/
theorem natOf_mid (l : Txt) (h : l.all isDig = true) (a b : Nat) (hab : a ≤ b) (hb : b ≤ l.length) :
    natOf ((l.drop a).take (b - a)) = natOf l / 10 ^ (l.length - b) % 10 ^ (b - a) := by
  have e : l = l.take a ++ ((l.drop a).take (b - a) ++ l.drop b) := by
    have e1 : l.drop b = (l.drop a).drop (b - a) := by rw [List.drop_drop]; congr 1; omega
    rw [e1, List.take_append_drop, List.take_append_drop]
  generalize hm : (l.drop a).take (b - a) = m at e
  have hml : m.length = b - a := by rw [← hm]; simp; omega
  have hmd : m.all isDig = true := by
    rw [List.all_eq_true] at h ⊢
    intro c hc; rw [← hm] at hc; exact h c (List.mem_of_mem_drop (List.mem_of_mem_take hc))
  have hdd : (l.drop b).all isDig = true := by
    rw [List.all_eq_true] at h ⊢
    intro c hc; exact h c (List.mem_of_mem_drop hc)
  have e2 : natOf l = (natOf (l.take a) * 10 ^ (b - a) + natOf m) * 10 ^ (l.length - b) + natOf (l.drop b) := by
    conv => lhs; rw [e]
    rw [natOf_append, natOf_append, List.length_append, hml, List.length_drop, Nat.pow_add]; grind
  have h1 := natOf_lt _ hdd
  rw [List.length_drop] at h1
  have h2 := natOf_lt _ hmd
  rw [hml] at h2
  have hp : 0 < 10 ^ (l.length - b) := Nat.pow_pos (by omega)
  rw [e2, Nat.add_comm _ (natOf (l.drop b)), Nat.add_mul_div_right _ _ hp, Nat.div_eq_of_lt h1, Nat.zero_add, Nat.add_comm, Nat.add_mul_mod_self_right, Nat.mod_eq_of_lt h2]

/-! ### The steps of the operations -/

theorem carry_le (b c x y : Nat) (hc : c ≤ 1) (hx : x < b) (hy : y < b) : (c + (x + y)) / b ≤ 1 := by
  have hb : 0 < b := by omega
  have : (c + (x + y)) / b < 2 := (Nat.div_lt_iff_lt_mul hb).2 (by omega)
  omega
/-- One round of a sum. -/
theorem plus_step (b i m n c V : Nat) (h : V + c * b ^ i = m % b ^ i + n % b ^ i) :
    V + b ^ i * ((c + (m / b ^ i % b + n / b ^ i % b)) % b) + (c + (m / b ^ i % b + n / b ^ i % b)) / b * b ^ (i + 1) = m % b ^ (i + 1) + n % b ^ (i + 1) := by
  rw [mod_succ b m, mod_succ b n]
  generalize m / b ^ i % b = x at *
  generalize n / b ^ i % b = y at *
  have h2 := Nat.mod_add_div (c + (x + y)) b
  generalize (c + (x + y)) % b = r at *
  generalize (c + (x + y)) / b = q at *
  rw [Nat.pow_succ]
  generalize b ^ i = p at *
  grind
theorem plus_end (b i m n c V : Nat) (h : V + c * b ^ i = m % b ^ i + n % b ^ i) (hs : m + n < b ^ i) : V = m + n ∧ c = 0 := by
  rw [mod_all b m i (by omega), mod_all b n i (by omega)] at h
  have : c = 0 := by
    rcases Nat.eq_zero_or_pos c with h0 | h0
    · exact h0
    · have := Nat.mul_le_mul_right (b ^ i) h0; omega
  subst this; omega
/-- One round of a difference. -/
theorem less_step (b i m n c V : Nat) (hb : 0 < b) (hc : c ≤ 1) (h : V + n % b ^ i = m % b ^ i + c * b ^ i) :
    V + b ^ i * ((m / b ^ i % b + (b - n / b ^ i % b - c)) % b) + n % b ^ (i + 1) = m % b ^ (i + 1) + (1 - (m / b ^ i % b + (b - n / b ^ i % b - c)) / b) * b ^ (i + 1) := by
  rw [mod_succ b m, mod_succ b n]
  have hx := Nat.mod_lt (m / b ^ i) hb
  have hy := Nat.mod_lt (n / b ^ i) hb
  generalize m / b ^ i % b = x at *
  generalize n / b ^ i % b = y at *
  have h2 := Nat.mod_add_div (x + (b - y - c)) b
  have h3 : (x + (b - y - c)) / b ≤ 1 := by
    have : (x + (b - y - c)) / b < 2 := (Nat.div_lt_iff_lt_mul hb).2 (by omega)
    omega
  generalize (x + (b - y - c)) % b = r at *
  generalize (x + (b - y - c)) / b = q at *
  rw [Nat.pow_succ]
  generalize b ^ i = p at *
  have hq : q = 0 ∨ q = 1 := by omega
  have hc' : c = 0 ∨ c = 1 := by omega
  rcases hq with rfl | rfl <;> rcases hc' with rfl | rfl
  · have : r + y = x + b := by omega
    grind
  · have : r + y + 1 = x + b := by omega
    grind
  · have : r + y = x := by omega
    grind
  · have : r + y + 1 = x := by omega
    grind
theorem less_end (b i m n c V : Nat) (h : V + n % b ^ i = m % b ^ i + c * b ^ i) (hm : m < b ^ i) (hn : n ≤ m) (hV : V < b ^ i) : V = m - n := by
  rw [mod_all b m i hm, mod_all b n i (by omega)] at h
  have : c = 0 := by
    rcases Nat.eq_zero_or_pos c with h0 | h0
    · exact h0
    · have := Nat.mul_le_mul_right (b ^ i) h0; omega
  subst this; omega
/-- One round of a row of a product. -/
theorem row_step (b i j v n c V W o : Nat) (h : V + c * b ^ (i + j) = W + v * (n % b ^ j) * b ^ i) (V' : Nat)
    (hV : V' + b ^ (i + j) * o = V + b ^ (i + j) * ((c + (o + v * (n / b ^ j % b))) % b)) :
    V' + (c + (o + v * (n / b ^ j % b))) / b * b ^ (i + (j + 1)) = W + v * (n % b ^ (j + 1)) * b ^ i := by
  rw [mod_succ b n]
  generalize n / b ^ j % b = x at *
  have h2 := Nat.mod_add_div (c + (o + v * x)) b
  generalize (c + (o + v * x)) % b = r at *
  generalize (c + (o + v * x)) / b = q at *
  rw [← Nat.add_assoc, Nat.pow_succ]
  rw [Nat.pow_add] at *
  generalize b ^ i = p at *
  generalize b ^ j = s at *
  generalize n % s = t at *
  grind
theorem row_carry (b c o v x : Nat) (hb : 0 < b) (hc : c < b) (ho : o < b) (hv : v < b) (hx : x < b) : c + (o + v * x) < b * b ∧ (c + (o + v * x)) / b < b := by
  have h1 : v * x ≤ (b - 1) * (b - 1) := Nat.mul_le_mul (by omega) (by omega)
  have h2 : c + (o + v * x) < b * b := by
    obtain ⟨k, rfl⟩ : ∃ k, b = k + 1 := ⟨b - 1, by omega⟩
    simp only [Nat.add_sub_cancel] at h1
    grind
  exact ⟨h2, (Nat.div_lt_iff_lt_mul hb).2 h2⟩
theorem row_end (b i ln m n c V : Nat) (hn : n < b ^ (ln + 1)) (hs : m % b ^ (i + 1) * n < b ^ (i + (ln + 1)))
    (h : V + c * b ^ (i + (ln + 1)) = m % b ^ i * n + (m / b ^ i % b) * (n % b ^ (ln + 1)) * b ^ i) : V = m % b ^ (i + 1) * n ∧ c = 0 := by
  rw [mod_all b n _ hn] at h
  have e : m % b ^ i * n + m / b ^ i % b * n * b ^ i = m % b ^ (i + 1) * n := by
    rw [mod_succ b m]; grind
  rw [e] at h
  have : c = 0 := by
    rcases Nat.eq_zero_or_pos c with h0 | h0
    · exact h0
    · have := Nat.mul_le_mul_right (b ^ (i + (ln + 1))) h0; omega
  subst this; omega
/-- One round of a division by a word. -/
theorem word_step (b i m d Q r : Nat) (h : Q * d + r = m / b ^ (i + 1)) :
    (Q * b + (r * b + m / b ^ i % b) / d) * d + (r * b + m / b ^ i % b) % d = m / b ^ i := by
  have h1 : m / b ^ i = m / b ^ (i + 1) * b + m / b ^ i % b := by
    rw [Nat.pow_succ, ← Nat.div_div_eq_div_mul]
    exact (Nat.div_add_mod' (m / b ^ i) b).symm
  rw [← h] at h1
  generalize m / b ^ i % b = x at *
  have h2 := Nat.mod_add_div (r * b + x) d
  generalize (r * b + x) % d = s at *
  generalize (r * b + x) / d = q at *
  rw [h1]; grind
theorem word_lt (b d r x : Nat) (hd : 0 < d) (hr : r < d) (hx : x < b) : (r * b + x) / d < b := by
  rw [Nat.div_lt_iff_lt_mul hd]
  have : (r + 1) * b ≤ d * b := Nat.mul_le_mul_right _ hr
  grind

/-! ### The guess of a word of a quotient -/

theorem guess_ge (b R d k L : Nat) (hb : 0 < b) (hL : 1 ≤ L) (hd : b ^ (L - 1) ≤ d) (hR : R < d * b ^ (k + 1)) :
    R / (d * b ^ k) ≤ min ((R / b ^ (L + k - 1)) / (d / b ^ (L - 1))) (b - 1) := by
  have hp : 0 < b ^ (L - 1) := Nat.pow_pos hb
  have hk : 0 < b ^ k := Nat.pow_pos hb
  have hdt : 0 < d / b ^ (L - 1) := Nat.div_pos hd hp
  have hd0 : 0 < d * b ^ k := Nat.mul_pos (by omega) hk
  refine Nat.le_min.2 ⟨?_, ?_⟩
  · rw [Nat.le_div_iff_mul_le hdt, Nat.le_div_iff_mul_le (Nat.pow_pos hb), show L + k - 1 = (L - 1) + k by omega, Nat.pow_add]
    have h1 := Nat.div_mul_le_self R (d * b ^ k)
    have h2 := Nat.div_mul_le_self d (b ^ (L - 1))
    have h3 : R / (d * b ^ k) * (d / b ^ (L - 1) * b ^ (L - 1)) * b ^ k ≤ R / (d * b ^ k) * d * b ^ k := Nat.mul_le_mul_right _ (Nat.mul_le_mul_left _ h2)
    grind
  · have : R / (d * b ^ k) < b := by
      rw [Nat.div_lt_iff_lt_mul hd0]
      rw [Nat.pow_succ] at hR; grind
    omega
theorem two_words (b R t : Nat) (hb : 0 < b) (ht : 1 ≤ t) (hR : R < b ^ (t + 1)) : R / b ^ t % b * b + R / b ^ (t - 1) % b = R / b ^ (t - 1) := by
  obtain ⟨s, rfl⟩ : ∃ s, t = s + 1 := ⟨t - 1, by omega⟩
  simp only [Nat.add_sub_cancel]
  have h1 : R / b ^ (s + 1) < b := by
    rw [Nat.div_lt_iff_lt_mul (Nat.pow_pos hb)]; rw [Nat.pow_succ b (s + 1)] at hR; grind
  rw [Nat.mod_eq_of_lt h1, Nat.pow_succ, ← Nat.div_div_eq_div_mul]
  exact Nat.div_add_mod' _ _

#print axioms natOf_mid
#print axioms guess_ge
end Lum
