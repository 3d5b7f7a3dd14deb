/-
  Parameters in order, parameters and values: plain words, and the words of both sides.
-/
import Derived.Test.YtikogofioggmlaaGreatDoorYaC
set_option linter.unusedVariables false
set_option linter.unusedSimpArgs false
namespace Lum
open Go Go.RowKit Go.Shelf
open Go.Lib (decDigits itoa)
theorem bch' {w w1 w2 : World} (h1 : Below w.heap.size w w1) (h2 : Below w1.heap.size w1 w2) : Below w.heap.size w w2 := h1.trans (h2.mono h1.size)
def ltP (p q : Int × Int) : Bool := decide (p.1 < q.1 ∨ p.1 = q.1 ∧ p.2 < q.2)
theorem ltP_iff {p q : Int × Int} : ltP p q = true ↔ p.1 < q.1 ∨ p.1 = q.1 ∧ p.2 < q.2 := by unfold ltP; rw [decide_eq_true_eq]
theorem ltP_false {p q : Int × Int} : ltP p q = false ↔ q.1 < p.1 ∨ p.1 = q.1 ∧ q.2 ≤ p.2 := by unfold ltP; rw [decide_eq_false_iff_not]; omega
theorem ltP_trans {p q r : Int × Int} (h : ltP p q = true) (g : ltP q r = true) : ltP p r = true := by rw [ltP_iff] at *; omega
theorem ltP_irr (p : Int × Int) : ltP p p = false := by rw [ltP_false]; omega
theorem ltP_ne {p q : Int × Int} (h : ltP p q = false) (g : p ≠ q) : ltP q p = true := by
  rw [ltP_false] at h; rw [ltP_iff]
  have : ¬ (p.1 = q.1 ∧ p.2 = q.2) := fun e => g (Prod.ext e.1 e.2)
  omega
def AscP (l : List (Int × Int)) : Prop := List.Pairwise (fun a b => ltP a b = true) l
/-- A parameter put into an ordered list. -/
def putP : List (Int × Int) → Int × Int → List (Int × Int)
  | [], p => [p]
  | x :: r, p => if ltP x p = true then x :: putP r p else if x = p then x :: r else p :: x :: r
theorem putP_at {p : Int × Int} : ∀ {l : List (Int × Int)} {i : Nat}, i ≤ l.length → (∀ j (hj : j < l.length), j < i → ltP (l[j]'hj) p = true) → (∀ h : i < l.length, ltP (l[i]'h) p = false) → putP l p = if l[i]? = some p then l else l.take i ++ p :: l.drop i := by
  intro l
  induction l with
  | nil => intro i hi _ _; simp at hi; subst hi; simp [putP]
  | cons x r ih =>
    intro i hi h1 h2
    cases i with
    | zero =>
      have h3 : ltP x p = false := h2 (by simp)
      rw [putP, if_neg (by rw [h3]; decide)]
      simp
    | succ i =>
      have h3 : ltP x p = true := h1 0 (by simp) (by omega)
      rw [putP, if_pos h3, ih (i := i) (by simp at hi; omega) (fun j hj hlt => h1 (j + 1) (by simp; omega) (by omega)) (fun h => h2 (by simp; omega))]
      simp only [List.getElem?_cons_succ, List.take_succ_cons, List.drop_succ_cons]
      split <;> simp
theorem putP_mem {p x : Int × Int} : ∀ {l : List (Int × Int)}, x ∈ putP l p ↔ x = p ∨ x ∈ l := by
  intro l
  induction l with
  | nil => simp [putP]
  | cons y r ih =>
    rw [putP]
    split
    · rw [List.mem_cons, ih, List.mem_cons]
      constructor
      · rintro (h | h | h)
        · exact Or.inr (Or.inl h)
        · exact Or.inl h
        · exact Or.inr (Or.inr h)
      · rintro (h | h | h)
        · exact Or.inr (Or.inl h)
        · exact Or.inl h
        · exact Or.inr (Or.inr h)
    · split
      · rename_i h; subst h; simp
      · simp
theorem putP_asc {p : Int × Int} : ∀ {l : List (Int × Int)}, AscP l → AscP (putP l p) := by
  intro l
  induction l with
  | nil => intro _; exact List.pairwise_singleton _ _
  | cons y r ih =>
    intro h
    obtain ⟨h1, h2⟩ := List.pairwise_cons.1 h
    rw [putP]
    split
    · rename_i h3
      refine List.pairwise_cons.2 ⟨fun x hx => ?_, ih h2⟩
      rcases putP_mem.1 hx with rfl | hx
      · exact h3
      · exact h1 x hx
    · rename_i h3
      split
      · exact h
      · rename_i h4
        have h5 : ltP p y = true := ltP_ne (by simpa using h3) h4
        refine List.pairwise_cons.2 ⟨fun x hx => ?_, h⟩
        rcases List.mem_cons.1 hx with rfl | hx
        · exact h5
        · exact ltP_trans h5 (h1 x hx)
/-- Parameters put one by one. -/
def putsP (l : List (Int × Int)) : List (Int × Int) := l.foldl putP []
theorem putsP_mem {x : Int × Int} (l : List (Int × Int)) : x ∈ putsP l ↔ x ∈ l := by
  unfold putsP
  suffices h : ∀ (l a : List (Int × Int)), x ∈ l.foldl putP a ↔ x ∈ a ∨ x ∈ l by rw [h]; simp
  intro l
  induction l with
  | nil => intro a; simp
  | cons y r ih =>
    intro a
    rw [List.foldl_cons, ih, putP_mem, List.mem_cons]
    constructor
    · rintro ((h | h) | h)
      · exact Or.inr (Or.inl h)
      · exact Or.inl h
      · exact Or.inr (Or.inr h)
    · rintro (h | h | h)
      · exact Or.inl (Or.inr h)
      · exact Or.inl (Or.inl h)
      · exact Or.inr h
theorem putsP_asc (l : List (Int × Int)) : AscP (putsP l) := by
  unfold putsP
  suffices h : ∀ (l a : List (Int × Int)), AscP a → AscP (l.foldl putP a) from h l [] List.Pairwise.nil
  intro l
  induction l with
  | nil => intro a h; exact h
  | cons y r ih => intro a h; exact ih _ (putP_asc h)
theorem asc_unique : ∀ {a b : List (Int × Int)}, AscP a → AscP b → (∀ x, x ∈ a ↔ x ∈ b) → a = b := by
  intro a
  induction a with
  | nil =>
    intro b _ _ h
    cases b with
    | nil => rfl
    | cons y s => exact absurd ((h y).2 (by simp)) (by simp)
  | cons x r ih =>
    intro b ha hb h
    cases b with
    | nil => exact absurd ((h x).1 (by simp)) (by simp)
    | cons y s =>
      obtain ⟨a1, a2⟩ := List.pairwise_cons.1 ha
      obtain ⟨b1, b2⟩ := List.pairwise_cons.1 hb
      have e : x = y := by
        rcases List.mem_cons.1 ((h x).1 (by simp)) with e | e
        · exact e
        · rcases List.mem_cons.1 ((h y).2 (by simp)) with e2 | e2
          · exact e2.symm
          · have := ltP_trans (a1 y e2) (b1 x e)
            rw [ltP_irr] at this; cases this
      subst e
      congr 1
      refine ih a2 b2 fun z => ⟨fun hz => ?_, fun hz => ?_⟩
      · rcases List.mem_cons.1 ((h z).1 (List.mem_cons_of_mem _ hz)) with e | e
        · subst e; have := a1 z hz; rw [ltP_irr] at this; cases this
        · exact e
      · rcases List.mem_cons.1 ((h z).2 (List.mem_cons_of_mem _ hz)) with e | e
        · subst e; have := b1 z hz; rw [ltP_irr] at this; cases this
        · exact e
def paE (ch a : Int) : Int := if ch < 1 ∨ 999 < ch ∨ a < 0 ∨ 15 ≤ a then 2 else 0
theorem paE_out {ch a : Int} (h : ch < 1 ∨ 999 < ch ∨ a < 0 ∨ 15 ≤ a) : paE ch a = 2 := by unfold paE; rw [if_pos h]
theorem paE_in {ch a : Int} (h : ¬ (ch < 1 ∨ 999 < ch ∨ a < 0 ∨ 15 ≤ a)) : paE ch a = 0 := by unfold paE; rw [if_neg h]
theorem paE_zero {ch a : Int} (h : paE ch a = 0) : (1 ≤ ch ∧ ch ≤ 999) ∧ 0 ≤ a ∧ a < 15 := by
  by_cases h1 : ch < 1 ∨ 999 < ch ∨ a < 0 ∨ 15 ≤ a
  · rw [paE_out h1] at h; cases h
  · omega
def valE (pa lv : Int) : Int := if (pa = 0 ∧ 0 ≤ lv ∧ lv ≤ 65535) ∨ (-1 ≤ pa ∧ pa ≤ 1048576 ∧ pa ≠ 0 ∧ lv = 0) then 0 else 2
theorem valE_yes {pa lv : Int} (h : (pa = 0 ∧ 0 ≤ lv ∧ lv ≤ 65535) ∨ (-1 ≤ pa ∧ pa ≤ 1048576 ∧ pa ≠ 0 ∧ lv = 0)) : valE pa lv = 0 := by unfold valE; rw [if_pos h]
theorem valE_no {pa lv : Int} (h : ¬ ((pa = 0 ∧ 0 ≤ lv ∧ lv ≤ 65535) ∨ (-1 ≤ pa ∧ pa ≤ 1048576 ∧ pa ≠ 0 ∧ lv = 0))) : valE pa lv = 2 := by unfold valE; rw [if_neg h]
/-- A hand: its parameter, the level it goes from, the value it goes to, start and time. -/
structure Hnd where
  ch : Int
  at_ : Int
  fr : Txt
  pa : Int
  lv : Int
  st : Int
  ti : Int
deriving DecidableEq
/-- An entry: its parameter and its value. -/
structure Ent where
  ch : Int
  at_ : Int
  pa : Int
  lv : Int
deriving DecidableEq
/-- An amount: its parameter and its level. -/
structure Amt where
  ch : Int
  at_ : Int
  le : Txt
deriving DecidableEq
def Hnd.ky (h : Hnd) : Int × Int := (h.ch, h.at_)
def Ent.ky (h : Ent) : Int × Int := (h.ch, h.at_)
def Amt.ky (h : Amt) : Int × Int := (h.ch, h.at_)
def encHd (h : Hnd) : List Value := [.int .i64 h.ch, .int .i64 h.at_, .string ⟨h.fr.toArray⟩, .int .i64 h.pa, .int .i64 h.lv, .int .i64 h.st, .int .i64 h.ti]
def encEn (h : Ent) : List Value := [.int .i64 h.ch, .int .i64 h.at_, .int .i64 h.pa, .int .i64 h.lv]
def encAm (h : Amt) : List Value := [.int .i64 h.ch, .int .i64 h.at_, .string ⟨h.le.toArray⟩]
theorem encHd_len : ∀ x, (encHd x).length = 7 := fun _ => rfl
theorem encEn_len : ∀ x, (encEn x).length = 4 := fun _ => rfl
theorem encAm_len : ∀ x, (encAm x).length = 3 := fun _ => rfl
theorem encHd_one : ∀ x, ∀ v ∈ encHd x, v.oneCell' = true := fun x v hv => by
  simp only [encHd, List.mem_cons, List.not_mem_nil, or_false] at hv; rcases hv with rfl | rfl | rfl | rfl | rfl | rfl | rfl <;> rfl
theorem encEn_one : ∀ x, ∀ v ∈ encEn x, v.oneCell' = true := fun x v hv => by
  simp only [encEn, List.mem_cons, List.not_mem_nil, or_false] at hv; rcases hv with rfl | rfl | rfl | rfl <;> rfl
/-- The sign of a comparison of parameters. -/
def sgI (x y : Int) : Int := if x < y then -1 else if x > y then 1 else 0
def cpP (p q : Int × Int) : Int := if sgI p.1 q.1 ≠ 0 then sgI p.1 q.1 else sgI p.2 q.2
theorem cpP_lt {p q : Int × Int} : cpP p q < 0 ↔ ltP p q = true := by
  rw [ltP_iff]; unfold cpP sgI; repeat' split
  all_goals omega
theorem cpP_gt {p q : Int × Int} : 0 < cpP p q ↔ ltP q p = true := by
  rw [ltP_iff]; unfold cpP sgI; repeat' split
  all_goals omega
theorem cpP_eq {p q : Int × Int} : cpP p q = 0 ↔ p = q := by
  obtain ⟨a, b⟩ := p; obtain ⟨c, d⟩ := q
  rw [Prod.mk.injEq]; unfold cpP sgI; dsimp only; repeat' split
  all_goals omega
theorem ltP_asym {p q : Int × Int} (h : ltP p q = true) : ltP q p = false := by rw [ltP_iff] at h; rw [ltP_false]; omega
theorem ltP_neq {p q : Int × Int} (h : ltP p q = true) : p ≠ q := fun e => by rw [e, ltP_irr] at h; cases h
/-- The first error of a list whose elements have ascending parameters. -/
def lowP : Option (Int × Int) → Int × Int → Bool
  | some k, z => !ltP k z
  | none, _ => false
def ordQ {α : Type} (err : α → Int) (key : α → Int × Int) : List α → Option (Int × Int) → Int
  | [], _ => 0
  | x :: r, p => if err x ≠ 0 then err x else if lowP p (key x) = true then 9 else ordQ err key r (some (key x))
def prevP {α : Type} (key : α → Int × Int) (l : List α) (i : Nat) : Option (Int × Int) := if i = 0 then none else (l[i - 1]?).map key
theorem prevP_succ {α : Type} (key : α → Int × Int) {l : List α} {i : Nat} (h : i < l.length) : prevP key l (i + 1) = some (key (l[i]'h)) := by
  unfold prevP
  rw [if_neg (by omega), Nat.add_sub_cancel, List.getElem?_eq_getElem h]; rfl
section
variable {α : Type} {err : α → Int} {key : α → Int × Int} {l : List α}
theorem ordQ_cons (p : Option (Int × Int)) (x : α) (r : List α) : ordQ err key (x :: r) p = if err x ≠ 0 then err x else if lowP p (key x) = true then 9 else ordQ err key r (some (key x)) := rfl
theorem ordQ_err {p : Option (Int × Int)} {i : Nat} (h : i < l.length) (e : ¬ err (l[i]'h) = 0) : ordQ err key (l.drop i) p = err (l[i]'h) := by
  rw [List.drop_eq_getElem_cons h, ordQ_cons, if_pos e]
theorem ordQ_low {i : Nat} (h : i + 1 < l.length) (e : err (l[i + 1]'h) = 0) (k : ltP (key (l[i]'(Nat.lt_of_succ_lt h))) (key (l[i + 1]'h)) = false) : ordQ err key (l.drop (i + 1)) (prevP key l (i + 1)) = 9 := by
  rw [List.drop_eq_getElem_cons h, ordQ_cons, if_neg (by simpa using e), prevP_succ key (Nat.lt_of_succ_lt h)]
  exact if_pos (by show (!ltP _ _) = true; rw [k]; rfl)
theorem ordQ_first (h : 0 < l.length) (e : err (l[0]'h) = 0) : ordQ err key (l.drop 0) (prevP key l 0) = ordQ err key (l.drop 1) (prevP key l 1) := by
  rw [List.drop_eq_getElem_cons h, ordQ_cons, if_neg (by simpa using e), prevP_succ key h]
  exact if_neg (by simp [prevP, lowP])
theorem ordQ_next {i : Nat} (h : i + 1 < l.length) (e : err (l[i + 1]'h) = 0) (k : ltP (key (l[i]'(Nat.lt_of_succ_lt h))) (key (l[i + 1]'h)) = true) : ordQ err key (l.drop (i + 1)) (prevP key l (i + 1)) = ordQ err key (l.drop (i + 1 + 1)) (prevP key l (i + 1 + 1)) := by
  rw [List.drop_eq_getElem_cons h, ordQ_cons, if_neg (by simpa using e), prevP_succ key (Nat.lt_of_succ_lt h), prevP_succ key h]
  exact if_neg (by show ¬ (!ltP _ _) = true; rw [k]; decide)
theorem ordQ_end {p : Option (Int × Int)} : ordQ err key (l.drop l.length) p = 0 := by rw [List.drop_length]; rfl
def ordP (lim : Nat) (err : α → Int) (key : α → Int × Int) (l : List α) : Int := if lim < l.length then 5 else ordQ err key l none
theorem ordP_many {lim : Nat} (h : lim < l.length) : ordP lim err key l = 5 := by unfold ordP; rw [if_pos h]
theorem ordP_few {lim : Nat} (h : ¬ lim < l.length) : ordP lim err key l = ordQ err key (l.drop 0) (prevP key l 0) := by unfold ordP; rw [if_neg h]; rfl
/-- Ascending parameters. -/
def AscK (key : α → Int × Int) (l : List α) : Prop := List.Pairwise (fun a b => ltP (key a) (key b) = true) l
/-- What a right list is. -/
structure OrdP (lim : Nat) (err : α → Int) (key : α → Int × Int) (l : List α) : Prop where
  few : l.length ≤ lim
  ok : ∀ x ∈ l, err x = 0
  asc : AscK key l
theorem ordQ_ok : ∀ {l : List α} {p : Option (Int × Int)}, ordQ err key l p = 0 → (∀ x ∈ l, err x = 0) ∧ AscK key l ∧ (∀ k, p = some k → ∀ x ∈ l, ltP k (key x) = true) := by
  intro l
  induction l with
  | nil => intro p _; exact ⟨(fun x h => by cases h), List.Pairwise.nil, (fun k _ x h => by cases h)⟩
  | cons x r ih =>
    intro p h
    rw [ordQ_cons] at h
    by_cases e : err x = 0
    · rw [if_neg (by simpa using e)] at h
      by_cases c : lowP p (key x) = true
      · rw [if_pos c] at h; cases h
      · rw [if_neg c] at h
        obtain ⟨h1, h2, h3⟩ := ih h
        have h4 := h3 (key x) rfl
        have h5 : ∀ k, p = some k → ltP k (key x) = true := fun k hk => by
          subst hk
          have : ¬ (!ltP k (key x)) = true := c
          simpa using this
        refine ⟨fun y hy => ?_, List.Pairwise.cons (fun y hy => h4 y hy) h2, fun k hk y hy => ?_⟩
        · rcases List.mem_cons.1 hy with rfl | hy
          · exact e
          · exact h1 y hy
        · rcases List.mem_cons.1 hy with rfl | hy
          · exact h5 k hk
          · exact ltP_trans (h5 k hk) (h4 y hy)
    · rw [if_pos e] at h; exact absurd h e
theorem ordP_ok {lim : Nat} (h : ordP lim err key l = 0) : OrdP lim err key l := by
  by_cases g : lim < l.length
  · rw [ordP_many g] at h; cases h
  · unfold ordP at h
    rw [if_neg g] at h
    obtain ⟨h1, h2, -⟩ := ordQ_ok h
    exact ⟨by omega, h1, h2⟩
theorem ordQ_all : ∀ {l : List α} {p : Option (Int × Int)}, (∀ x ∈ l, err x = 0) → AscK key l → (∀ k, p = some k → ∀ x ∈ l, ltP k (key x) = true) → ordQ err key l p = 0 := by
  intro l
  induction l with
  | nil => intro p _ _ _; rfl
  | cons x r ih =>
    intro p h1 h2 h3
    rw [ordQ_cons, if_neg (by simpa using h1 x List.mem_cons_self)]
    have h4 : ¬ lowP p (key x) = true := by
      cases p with
      | none => simp [lowP]
      | some k => have := h3 k rfl x List.mem_cons_self; simp [lowP, this]
    rw [if_neg h4]
    cases h2 with
    | cons h5 h6 => exact ih (fun y hy => h1 y (List.mem_cons_of_mem _ hy)) h6 (fun k hk y hy => by injection hk with hk; subst hk; exact h5 y hy)
theorem ordP_of {lim : Nat} (h : OrdP lim err key l) : ordP lim err key l = 0 := by
  unfold ordP; rw [if_neg (by have := h.few; omega)]
  exact ordQ_all h.ok h.asc (fun k hk => by cases hk)
/-- Where a parameter belongs, and whether it is there. -/
structure BelP (key : α → Int × Int) (l : List α) (p : Int × Int) (i : Nat) (hit : Bool) : Prop where
  le : i ≤ l.length
  bef : ∀ j (h : j < l.length), j < i → ltP (key (l[j]'h)) p = true
  yes : hit = true → ∃ h : i < l.length, key (l[i]'h) = p
  no : hit = false → ∀ j (h : j < l.length), i ≤ j → ltP p (key (l[j]'h)) = true
  aft : ∀ j (h : j < l.length), i < j → ltP p (key (l[j]'h)) = true
theorem AscK.lt (h : AscK key l) {i j : Nat} (hj : j < l.length) (hi : i < j) : ltP (key (l[i]'(by omega))) (key (l[j]'hj)) = true := List.pairwise_iff_getElem.1 h i j (by omega) hj hi
def cAt (key : α → Int × Int) (l : List α) (p : Int × Int) (i : Nat) : Int := match l[i]? with
  | some x => cpP (key x) p
  | none => 0
theorem cAt_at {p : Int × Int} {i : Nat} (h : i < l.length) : cAt key l p i = cpP (key (l[i]'h)) p := by unfold cAt; rw [List.getElem?_eq_getElem h]
theorem halved_belP {p : Int × Int} {i : Nat} (hs : AscK key l) (h : Halved (cAt key l p) l.length i) : BelP key l p i (decide (i < l.length ∧ cAt key l p i = 0)) := by
  obtain ⟨h1, h2, h3⟩ := h
  refine ⟨h1, fun j hj hji => ?_, fun e => ?_, fun e j hj hij => ?_, fun j hj hij => ?_⟩
  · have h4 := h2 (by omega)
    rw [cAt_at (by omega), cpP_lt] at h4
    by_cases e : j = i - 1
    · subst e; exact h4
    · exact ltP_trans (hs.lt (i := j) (j := i - 1) (by omega) (by omega)) h4
  · obtain ⟨e1, e2⟩ := of_decide_eq_true e
    rw [cAt_at e1, cpP_eq] at e2
    exact ⟨e1, e2⟩
  · have e2 := of_decide_eq_false e
    have h4 := h3 (by omega)
    have h5 : 0 < cAt key l p i := by
      have : ¬ cAt key l p i = 0 := fun g => e2 ⟨by omega, g⟩
      omega
    rw [cAt_at (by omega), cpP_gt] at h5
    by_cases e3 : j = i
    · subst e3; exact h5
    · exact ltP_trans h5 (hs.lt hj (by omega))
  · have h4 := h3 (by omega)
    rw [cAt_at (by omega)] at h4
    have h6 := hs.lt hj hij
    by_cases h5 : cpP (key (l[i]'(by omega))) p = 0
    · rw [cpP_eq] at h5; rwa [h5] at h6
    · exact ltP_trans (cpP_gt.1 (by omega)) h6
theorem belP_ex (hs : AscK key l) (p : Int × Int) : ∃ i hit, BelP key l p i hit := by
  obtain ⟨i, hi⟩ : ∃ i, i = l.findIdx (fun q => !ltP (key q) p) := ⟨_, rfl⟩
  refine ⟨i, _, halved_belP hs ⟨by rw [hi]; exact List.findIdx_le_length, fun h0 => ?_, fun hl => ?_⟩⟩
  · have hlt : i - 1 < l.length := by have : i ≤ l.length := by rw [hi]; exact List.findIdx_le_length
                                      omega
    have := List.not_of_lt_findIdx (p := fun q => !ltP (key q) p) (xs := l) (i := i - 1) (by omega)
    rw [cAt_at hlt, cpP_lt]
    simpa using this
  · have h2 := List.findIdx_getElem (xs := l) (p := fun q => !ltP (key q) p) (w := by rw [← hi]; exact hl)
    simp only [← hi] at h2
    rw [cAt_at hl]
    have h3 : ¬ cpP (key (l[i]'hl)) p < 0 := fun g => by rw [cpP_lt.1 g] at h2; cases h2
    omega
theorem BelP.find {p : Int × Int} {i : Nat} (h : BelP key l p i true) : l.find? (fun x => key x == p) = some (l[i]'(h.yes rfl).1) := by
  obtain ⟨h1, h2⟩ := h.yes rfl
  refine find_at h1 (by simpa using h2) fun j hj => ?_
  have := ltP_neq (h.bef j (by omega) hj)
  simpa using this
theorem BelP.ix {p : Int × Int} {i : Nat} (h : BelP key l p i true) : ixOf (fun x => key x == p) l = (i : Int) := by
  obtain ⟨h1, h2⟩ := h.yes rfl
  refine ixOf_at h1 (by simpa using h2) fun j hj => ?_
  have := ltP_neq (h.bef j (by omega) hj)
  simpa using this
theorem BelP.miss {p : Int × Int} {i : Nat} (h : BelP key l p i false) : ∀ j (hj : j < l.length), key (l[j]'hj) ≠ p := fun j hj => by
  by_cases g : j < i
  · exact ltP_neq (h.bef j hj g)
  · exact fun e => ltP_neq (h.no rfl j hj (by omega)) e.symm
theorem BelP.ix_no {p : Int × Int} {i : Nat} (h : BelP key l p i false) : ixOf (fun x => key x == p) l = -1 := ixOf_no fun j hj => by simpa using h.miss j hj
theorem BelP.find_no {p : Int × Int} {i : Nat} (h : BelP key l p i false) : l.find? (fun x => key x == p) = Option.none := Lum.find_no fun j hj => by simpa using h.miss j hj
/-- An ordered list with an element put in. -/
def putK (key : α → Int × Int) : List α → α → List α
  | [], h => [h]
  | x :: r, h => if ltP (key x) (key h) = true then x :: putK key r h else if key x = key h then h :: r else h :: x :: r
theorem putK_mem {h x : α} : ∀ {l : List α}, AscK key l → (x ∈ putK key l h ↔ x = h ∨ (x ∈ l ∧ key x ≠ key h)) := by
  intro l
  induction l with
  | nil => intro _; simp [putK]
  | cons y r ih =>
    intro hs
    obtain ⟨h1, h2⟩ := List.pairwise_cons.1 hs
    rw [putK]
    by_cases c : ltP (key y) (key h) = true
    · rw [if_pos c, List.mem_cons, ih h2]
      have := ltP_neq c
      constructor
      · rintro (rfl | rfl | ⟨h3, h4⟩)
        · exact Or.inr ⟨List.mem_cons_self, this⟩
        · exact Or.inl rfl
        · exact Or.inr ⟨List.mem_cons_of_mem _ h3, h4⟩
      · rintro (rfl | ⟨h3, h4⟩)
        · exact Or.inr (Or.inl rfl)
        · rcases List.mem_cons.1 h3 with rfl | h3
          · exact Or.inl rfl
          · exact Or.inr (Or.inr ⟨h3, h4⟩)
    · rw [if_neg c]
      by_cases e : key y = key h
      · rw [if_pos e, List.mem_cons]
        constructor
        · rintro (rfl | h3)
          · exact Or.inl rfl
          · exact Or.inr ⟨List.mem_cons_of_mem _ h3, fun g => ltP_neq (h1 x h3) (e.trans g.symm)⟩
        · rintro (rfl | ⟨h3, h4⟩)
          · exact Or.inl rfl
          · rcases List.mem_cons.1 h3 with rfl | h3
            · exact absurd e h4
            · exact Or.inr h3
      · rw [if_neg e, List.mem_cons]
        have hlt : ltP (key h) (key y) = true := ltP_ne (by simpa using c) (fun g => e g)
        constructor
        · rintro (rfl | h3)
          · exact Or.inl rfl
          · refine Or.inr ⟨h3, fun g => ?_⟩
            rcases List.mem_cons.1 h3 with rfl | h5
            · exact e g
            · exact ltP_neq (ltP_trans hlt (h1 x h5)) g.symm
        · rintro (rfl | ⟨h3, -⟩)
          · exact Or.inl rfl
          · exact Or.inr h3
theorem putK_asc {h : α} : ∀ {l : List α}, AscK key l → AscK key (putK key l h) := by
  intro l
  induction l with
  | nil => intro _; exact List.Pairwise.cons (fun y hy => by cases hy) List.Pairwise.nil
  | cons y r ih =>
    intro hs
    obtain ⟨h1, h2⟩ := List.pairwise_cons.1 hs
    rw [putK]
    by_cases c : ltP (key y) (key h) = true
    · rw [if_pos c]
      refine List.Pairwise.cons (fun z hz => ?_) (ih h2)
      rcases (putK_mem h2).1 hz with rfl | ⟨h3, -⟩
      · exact c
      · exact h1 z h3
    · rw [if_neg c]
      by_cases e : key y = key h
      · rw [if_pos e]
        exact List.Pairwise.cons (fun z hz => by rw [← e]; exact h1 z hz) h2
      · rw [if_neg e]
        have hlt : ltP (key h) (key y) = true := ltP_ne (by simpa using c) (fun g => e g)
        refine List.Pairwise.cons (fun z hz => ?_) hs
        rcases List.mem_cons.1 hz with rfl | h3
        · exact hlt
        · exact ltP_trans hlt (h1 z h3)
theorem putK_at {h : α} : ∀ {l : List α} {i : Nat} {hit : Bool}, BelP key l (key h) i hit → putK key l h = insL l i hit h := by
  intro l
  induction l with
  | nil =>
    intro i hit hb
    have : i = 0 := by have := hb.le; simpa using this
    subst this
    unfold insL putK; simp
  | cons y r ih =>
    intro i hit hb
    cases i with
    | zero =>
      cases hit with
      | true =>
        obtain ⟨h1, h2⟩ := hb.yes rfl
        have h2 : key y = key h := h2
        rw [putK, if_neg (by rw [h2, ltP_irr]; decide), if_pos h2]; unfold insL; simp
      | false =>
        have h2 : ltP (key h) (key y) = true := hb.no rfl 0 (by simp) (Nat.le_refl _)
        rw [putK, if_neg (by rw [ltP_asym h2]; decide), if_neg (fun e => ltP_neq h2 e.symm)]; unfold insL; simp
    | succ i =>
      have h1 : ltP (key y) (key h) = true := hb.bef 0 (by simp) (by omega)
      have hr : BelP key r (key h) i hit := by
        refine ⟨by have := hb.le; simp at this; omega, fun j hj hji => ?_, fun e => ?_, fun e j hj hij => ?_, fun j hj hij => ?_⟩
        · have := hb.bef (j + 1) (by simp; omega) (by omega); simpa using this
        · obtain ⟨h2, h3⟩ := hb.yes e; exact ⟨by simpa using h2, by simpa using h3⟩
        · have := hb.no e (j + 1) (by simp; omega) (by omega); simpa using this
        · have := hb.aft (j + 1) (by simp; omega) (by omega); simpa using this
      rw [putK, if_pos h1, ih hr]
      unfold insL
      cases hit <;> simp
/-- Two ascending lists with the same elements are one. -/
theorem ascK_unique : ∀ {a b : List α}, AscK key a → AscK key b → (∀ x, x ∈ a ↔ x ∈ b) → a = b := by
  intro a
  induction a with
  | nil =>
    intro b _ _ h
    cases b with
    | nil => rfl
    | cons y s => exact absurd ((h y).2 List.mem_cons_self) (by simp)
  | cons x r ih =>
    intro b ha hb h
    cases b with
    | nil => exact absurd ((h x).1 List.mem_cons_self) (by simp)
    | cons y s =>
      obtain ⟨a1, a2⟩ := List.pairwise_cons.1 ha
      obtain ⟨b1, b2⟩ := List.pairwise_cons.1 hb
      have hxy : x = y := by
        rcases List.mem_cons.1 ((h x).1 List.mem_cons_self) with e | h1
        · exact e
        · rcases List.mem_cons.1 ((h y).2 List.mem_cons_self) with e | h2
          · exact e.symm
          · have g1 := b1 x h1
            have g2 := a1 y h2
            rw [ltP_asym g1] at g2; cases g2
      subst hxy
      rw [ih a2 b2 fun z => ?_]
      constructor
      · intro hz
        rcases List.mem_cons.1 ((h z).1 (List.mem_cons_of_mem _ hz)) with rfl | h1
        · have := a1 z hz; rw [ltP_irr] at this; cases this
        · exact h1
      · intro hz
        rcases List.mem_cons.1 ((h z).2 (List.mem_cons_of_mem _ hz)) with rfl | h1
        · have := b1 z hz; rw [ltP_irr] at this; cases this
        · exact h1
/-- Elements put in, one after the other. -/
def putsK (key : α → Int × Int) (l f : List α) : List α := f.foldl (putK key) l
theorem putsK_asc : ∀ {f l : List α}, AscK key l → AscK key (putsK key l f) := by
  intro f
  induction f with
  | nil => intro l h; exact h
  | cons x r ih => intro l h; exact ih (putK_asc h)
theorem putsK_mem : ∀ {f l : List α}, AscK key l → AscK key f → ∀ x, x ∈ putsK key l f ↔ x ∈ f ∨ (x ∈ l ∧ ∀ y ∈ f, key x ≠ key y) := by
  intro f
  induction f with
  | nil => intro l _ _ x; simp [putsK]
  | cons z r ih =>
    intro l hl hf x
    obtain ⟨h1, h2⟩ := List.pairwise_cons.1 hf
    show x ∈ putsK key (putK key l z) r ↔ _
    rw [ih (putK_asc hl) h2, putK_mem hl, List.mem_cons]
    constructor
    · rintro (h3 | ⟨rfl | ⟨h4, h5⟩, h6⟩)
      · exact Or.inl (Or.inr h3)
      · exact Or.inl (Or.inl rfl)
      · refine Or.inr ⟨h4, fun y hy => ?_⟩
        rcases List.mem_cons.1 hy with rfl | hy
        · exact h5
        · exact h6 y hy
    · rintro ((rfl | h3) | ⟨h4, h5⟩)
      · exact Or.inr ⟨Or.inl rfl, fun y hy => ltP_neq (h1 y hy)⟩
      · exact Or.inl h3
      · exact Or.inr ⟨Or.inr ⟨h4, h5 z List.mem_cons_self⟩, fun y hy => h5 y (List.mem_cons_of_mem _ hy)⟩
/-- What remains, and what is new, sorted: the same as putting one by one. -/
theorem merged_puts {f l s : List α} (hl : AscK key l) (hf : AscK key f) (hp : List.Perm s (l.filter (fun x => !f.any (fun y => decide (key x = key y))) ++ f)) (hs : ∀ i j (hj : j < s.length) (h : i < j), ltP (key (s[j]'hj)) (key (s[i]'(by omega))) = false) : s = putsK key l f := by
  have hm : ∀ x, x ∈ s ↔ x ∈ f ∨ (x ∈ l ∧ ∀ y ∈ f, key x ≠ key y) := fun x => by
    rw [hp.mem_iff, List.mem_append, List.mem_filter]
    constructor
    · rintro (⟨h1, h2⟩ | h1)
      · refine Or.inr ⟨h1, fun y hy e => ?_⟩
        have : f.any (fun y => decide (key x = key y)) = true := List.any_eq_true.2 ⟨y, hy, decide_eq_true e⟩
        rw [this] at h2; cases h2
      · exact Or.inl h1
    · rintro (h1 | ⟨h1, h2⟩)
      · exact Or.inr h1
      · refine Or.inl ⟨h1, ?_⟩
        have : f.any (fun y => decide (key x = key y)) = false := List.any_eq_false.2 fun y hy => by simpa using h2 y hy
        rw [this]; rfl
  have hn : (l.filter (fun x => !f.any (fun y => decide (key x = key y))) ++ f).Pairwise (fun a b => key a ≠ key b) := by
    rw [List.pairwise_append]
    refine ⟨((List.Pairwise.filter _ hl).imp fun h => ltP_neq h), hf.imp fun h => ltP_neq h, fun a ha b hb e => ?_⟩
    have h2 := (List.mem_filter.1 ha).2
    have : f.any (fun y => decide (key a = key y)) = true := List.any_eq_true.2 ⟨b, hb, decide_eq_true e⟩
    rw [this] at h2; cases h2
  have hn2 : s.Pairwise (fun a b => key a ≠ key b) := (hp.pairwise_iff fun h => fun e => h e.symm).2 hn
  have ha : AscK key s := List.pairwise_iff_getElem.2 fun i j hi hj hij => by
    have h1 := hs i j hj hij
    have h2 := List.pairwise_iff_getElem.1 hn2 i j hi hj hij
    exact ltP_ne h1 (fun e => h2 e.symm)
  exact ascK_unique ha (putsK_asc hl) fun x => by rw [hm, putsK_mem hl hf]
end
end Lum
namespace Go.Proofs.YtikogofioggmlaaGreatDoor
open Go.RowKit Go.Shelf Lum
open Go.Lib (decDigits itoa)
attribute [local go_sem] bs_get bs_extract_end bs_extract_from bs_extract bs_append

theorem r15_lev (v : Int) (w : World) :
    Calls Tryz.prog 58 #[.int .i64 v] w fun e w' => e = .returned (.bool (decide (0 ≤ v ∧ v ≤ 65535))) ∧ w = w' := by
  by_cases h1 : 0 ≤ v
  · by_cases h2 : v ≤ 65535
    · rw [decide_eq_true (⟨h1, h2⟩ : 0 ≤ v ∧ v ≤ 65535)]
      go_enter Tryz.func58, Tryz.ntmps58
      go_wp2
      go_ret
      exact ⟨rfl, rfl⟩
    · rw [decide_eq_false (fun h => h2 h.2)]
      go_enter Tryz.func58, Tryz.ntmps58
      go_wp2
      go_ret
      exact ⟨rfl, rfl⟩
  · rw [decide_eq_false (fun h => h1 h.1)]
    go_enter Tryz.func58, Tryz.ntmps58
    go_wp2
    go_ret
    exact ⟨rfl, rfl⟩

theorem own_plev (v : Int) (w : World) :
    Calls Tryz.prog 111 #[.int .i64 v] w fun e w' => e = .returned (.bool (decide (0 ≤ v ∧ v ≤ 65535))) ∧ w = w' := by
  by_cases h1 : 0 ≤ v
  · by_cases h2 : v ≤ 65535
    · rw [decide_eq_true (⟨h1, h2⟩ : 0 ≤ v ∧ v ≤ 65535)]
      go_enter Tryz.func111, Tryz.ntmps111
      go_wp2
      go_ret
      exact ⟨rfl, rfl⟩
    · rw [decide_eq_false (fun h => h2 h.2)]
      go_enter Tryz.func111, Tryz.ntmps111
      go_wp2
      go_ret
      exact ⟨rfl, rfl⟩
  · rw [decide_eq_false (fun h => h1 h.1)]
    go_enter Tryz.func111, Tryz.ntmps111
    go_wp2
    go_ret
    exact ⟨rfl, rfl⟩

set_option maxRecDepth 100000 in
set_option maxHeartbeats 2000000 in
theorem r15_par (ch a : Int) (w : World) :
    Calls Tryz.prog 45 #[.agg #[.int .i64 ch, .int .i64 a]] w fun e w' => e = .returned (.int .i64 (paE ch a)) ∧ Below w.heap.size w w' := by
  have HP := Lib.hid (Blk.new w 39 #[.int .i64 ch, .int .i64 a])
  have HB := Lib.hid ((Below.refl w.heap.size w).alloc (Nat.le_refl _) (.cells #[.int .i64 ch, .int .i64 a] 39))
  obtain ⟨q0, q1, qf0, qf1⟩ := HP.out.c2
  by_cases o0 : ch < 1
  · rw [paE_out (by omega)]
    go_enter Tryz.func45, Tryz.ntmps45
    go_wp2_with fail
    go_ret
    exact ⟨rfl, HB.out⟩
  by_cases o1 : 999 < ch
  · rw [paE_out (by omega)]
    go_enter Tryz.func45, Tryz.ntmps45
    go_wp2_with fail
    go_ret
    exact ⟨rfl, HB.out⟩
  by_cases o2 : a < 0
  · rw [paE_out (by omega)]
    go_enter Tryz.func45, Tryz.ntmps45
    go_wp2_with fail
    go_ret
    exact ⟨rfl, HB.out⟩
  by_cases o3 : 15 ≤ a
  · rw [paE_out (by omega)]
    go_enter Tryz.func45, Tryz.ntmps45
    go_wp2_with fail
    go_ret
    exact ⟨rfl, HB.out⟩
  rw [paE_in (by omega)]
  go_enter Tryz.func45, Tryz.ntmps45
  go_wp2_with fail
  go_ret
  exact ⟨rfl, HB.out⟩

set_option maxRecDepth 100000 in
set_option maxHeartbeats 2000000 in
theorem r15_val (pa lv : Int) (w : World) :
    Calls Tryz.prog 46 #[.agg #[.int .i64 pa, .int .i64 lv]] w fun e w' => e = .returned (.int .i64 (valE pa lv)) ∧ Below w.heap.size w w' := by
  have hlv := fun W => r15_lev lv W
  have HLV := Lib.hid hlv; clear hlv
  have HP := Lib.hid (Blk.new w 41 #[.int .i64 pa, .int .i64 lv])
  have HB := Lib.hid ((Below.refl w.heap.size w).alloc (Nat.le_refl _) (.cells #[.int .i64 pa, .int .i64 lv] 41))
  obtain ⟨q0, q1, qf0, qf1⟩ := HP.out.c2
  by_cases h1 : pa = 0
  · obtain ⟨pz, hpz⟩ : ∃ z, z = pa := ⟨_, rfl⟩
    have heq : ((pa : Int) == 0) = true := by rw [beq_iff_eq]; exact h1
    have hne : ((pa : Int) != 0) = false := by rw [bne_eq_false_iff_eq]; exact h1
    have hge : (-1 : Int) ≤ pa := by omega
    have hle : pa ≤ 1048576 := by omega
    clear hpz
    by_cases h2 : 0 ≤ lv ∧ lv ≤ 65535
    · rw [valE_yes (by omega)]
      rw [decide_eq_true h2] at HLV
      clear h1 h2
      go_enter Tryz.func46, Tryz.ntmps46
      go_wp2_with (first | (with_reducible refine ((HLV.out _).mono ?_); rintro e w' ⟨rfl, rfl⟩))
      go_ret
      exact ⟨rfl, HB.out⟩
    · rw [valE_no (by omega)]
      rw [decide_eq_false h2] at HLV
      clear h1 h2
      go_enter Tryz.func46, Tryz.ntmps46
      go_wp2_with (first | (with_reducible refine ((HLV.out _).mono ?_); rintro e w' ⟨rfl, rfl⟩))
      go_ret
      exact ⟨rfl, HB.out⟩
  · have heq : ((pa : Int) == 0) = false := by rw [beq_eq_false_iff_ne]; exact h1
    have hne : ((pa : Int) != 0) = true := by rw [bne_iff_ne]; exact h1
    by_cases h2 : -1 ≤ pa
    · by_cases h3 : pa ≤ 1048576
      · by_cases h4 : lv = 0
        · rw [valE_yes (by omega)]
          have hq : ((lv : Int) == 0) = true := by rw [beq_iff_eq]; exact h4
          clear h4
          go_enter Tryz.func46, Tryz.ntmps46
          go_wp2_with (first | (with_reducible refine ((HLV.out _).mono ?_); rintro e w' ⟨rfl, rfl⟩))
          go_ret
          exact ⟨rfl, HB.out⟩
        · rw [valE_no (by omega)]
          have hq : ((lv : Int) == 0) = false := by rw [beq_eq_false_iff_ne]; exact h4
          go_enter Tryz.func46, Tryz.ntmps46
          go_wp2_with (first | (with_reducible refine ((HLV.out _).mono ?_); rintro e w' ⟨rfl, rfl⟩))
          go_ret
          exact ⟨rfl, HB.out⟩
      · rw [valE_no (by omega)]
        go_enter Tryz.func46, Tryz.ntmps46
        go_wp2_with (first | (with_reducible refine ((HLV.out _).mono ?_); rintro e w' ⟨rfl, rfl⟩))
        go_ret
        exact ⟨rfl, HB.out⟩
    · rw [valE_no (by omega)]
      go_enter Tryz.func46, Tryz.ntmps46
      go_wp2_with (first | (with_reducible refine ((HLV.out _).mono ?_); rintro e w' ⟨rfl, rfl⟩))
      go_ret
      exact ⟨rfl, HB.out⟩

set_option maxRecDepth 100000 in
set_option maxHeartbeats 2000000 in
theorem own_pval (pa lv : Int) (w : World) :
    Calls Tryz.prog 102 #[.agg #[.int .i64 pa, .int .i64 lv]] w fun e w' => e = .returned (.int .i64 (valE pa lv)) ∧ Below w.heap.size w w' := by
  have hlv := fun W => own_plev lv W
  have HLV := Lib.hid hlv; clear hlv
  have HP := Lib.hid (Blk.new w 41 #[.int .i64 pa, .int .i64 lv])
  have HB := Lib.hid ((Below.refl w.heap.size w).alloc (Nat.le_refl _) (.cells #[.int .i64 pa, .int .i64 lv] 41))
  obtain ⟨q0, q1, qf0, qf1⟩ := HP.out.c2
  by_cases h1 : pa = 0
  · obtain ⟨pz, hpz⟩ : ∃ z, z = pa := ⟨_, rfl⟩
    have heq : ((pa : Int) == 0) = true := by rw [beq_iff_eq]; exact h1
    have hne : ((pa : Int) != 0) = false := by rw [bne_eq_false_iff_eq]; exact h1
    have hge : (-1 : Int) ≤ pa := by omega
    have hle : pa ≤ 1048576 := by omega
    clear hpz
    by_cases h2 : 0 ≤ lv ∧ lv ≤ 65535
    · rw [valE_yes (by omega)]
      rw [decide_eq_true h2] at HLV
      clear h1 h2
      go_enter Tryz.func102, Tryz.ntmps102
      go_wp2_with (first | (with_reducible refine ((HLV.out _).mono ?_); rintro e w' ⟨rfl, rfl⟩))
      go_ret
      exact ⟨rfl, HB.out⟩
    · rw [valE_no (by omega)]
      rw [decide_eq_false h2] at HLV
      clear h1 h2
      go_enter Tryz.func102, Tryz.ntmps102
      go_wp2_with (first | (with_reducible refine ((HLV.out _).mono ?_); rintro e w' ⟨rfl, rfl⟩))
      go_ret
      exact ⟨rfl, HB.out⟩
  · have heq : ((pa : Int) == 0) = false := by rw [beq_eq_false_iff_ne]; exact h1
    have hne : ((pa : Int) != 0) = true := by rw [bne_iff_ne]; exact h1
    by_cases h2 : -1 ≤ pa
    · by_cases h3 : pa ≤ 1048576
      · by_cases h4 : lv = 0
        · rw [valE_yes (by omega)]
          have hq : ((lv : Int) == 0) = true := by rw [beq_iff_eq]; exact h4
          clear h4
          go_enter Tryz.func102, Tryz.ntmps102
          go_wp2_with (first | (with_reducible refine ((HLV.out _).mono ?_); rintro e w' ⟨rfl, rfl⟩))
          go_ret
          exact ⟨rfl, HB.out⟩
        · rw [valE_no (by omega)]
          have hq : ((lv : Int) == 0) = false := by rw [beq_eq_false_iff_ne]; exact h4
          go_enter Tryz.func102, Tryz.ntmps102
          go_wp2_with (first | (with_reducible refine ((HLV.out _).mono ?_); rintro e w' ⟨rfl, rfl⟩))
          go_ret
          exact ⟨rfl, HB.out⟩
      · rw [valE_no (by omega)]
        go_enter Tryz.func102, Tryz.ntmps102
        go_wp2_with (first | (with_reducible refine ((HLV.out _).mono ?_); rintro e w' ⟨rfl, rfl⟩))
        go_ret
        exact ⟨rfl, HB.out⟩
    · rw [valE_no (by omega)]
      go_enter Tryz.func102, Tryz.ntmps102
      go_wp2_with (first | (with_reducible refine ((HLV.out _).mono ?_); rintro e w' ⟨rfl, rfl⟩))
      go_ret
      exact ⟨rfl, HB.out⟩
end Go.Proofs.YtikogofioggmlaaGreatDoor
