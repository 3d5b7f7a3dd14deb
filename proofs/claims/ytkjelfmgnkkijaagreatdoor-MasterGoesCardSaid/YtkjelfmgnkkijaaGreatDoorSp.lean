/-
  Submasters: the plain words: the fader and the gain found, the factor; what right tables are.
-/
import Derived.Test.YtkjelfmgnkkijaaGreatDoorSw
set_option linter.unusedVariables false
set_option linter.unusedSimpArgs false
namespace Lum
open Go Go.RowKit Go.Shelf
open Go.Lib (decDigits itoa)
theorem gnv_at {l : List Gn} {i : Nat} (h : i < l.length) : l[i]'h = gnv l i := by unfold gnv; rw [List.getElem?_eq_getElem h]; rfl
theorem sbv_at {l : List Sb} {i : Nat} (h : i < l.length) : l[i]'h = sbv l i := by unfold sbv; rw [List.getElem?_eq_getElem h]; rfl
theorem fdv_at {l : List Fdr} {i : Nat} (h : i < l.length) : l[i]'h = fdv l i := by unfold fdv; rw [List.getElem?_eq_getElem h]; rfl
theorem gaE_zero {inh : Bool} {l : List Gn} : ∀ (n i : Nat), i + n = l.length → gaE inh l n i = 0 → ∀ j, i ≤ j → j < l.length →
    parE (gnv l j).ch (gnv l j).at_ = 0 ∧ (0 ≤ (gnv l j).lev ∧ (gnv l j).lev ≤ 65535) ∧ (0 < j → befP (gnv l (j - 1)).ch (gnv l (j - 1)).at_ (gnv l j).ch (gnv l j).at_) := by
  intro n
  induction n with
  | zero => intro i h _ j h1 h2; omega
  | succ n ih =>
    intro i h h0 j h1 h2
    by_cases c1 : parE (gnv l i).ch (gnv l i).at_ = 0
    · by_cases c2 : (gnv l i).lev < 0 ∨ 65535 < (gnv l i).lev
      · rw [gaE_lev c1 c2] at h0; omega
      by_cases c3 : inh = true ∧ (gnv l i).at_ ≠ 0
      · rw [gaE_use c1 c2 c3] at h0; omega
      by_cases c4 : 0 < i ∧ ¬ befP (gnv l (i - 1)).ch (gnv l (i - 1)).at_ (gnv l i).ch (gnv l i).at_
      · rw [gaE_ord c1 c2 c3 c4] at h0; omega
      rw [gaE_go c1 c2 c3 c4] at h0
      by_cases e : j = i
      · subst e; exact ⟨c1, by omega, fun h => Decidable.not_not.1 fun g => c4 ⟨h, g⟩⟩
      · exact ih (i + 1) (by omega) h0 j (by omega) h2
    · rw [gaE_par c1] at h0; exact absurd h0 c1
/-- What a right submaster is. -/
structure SubOk (s : Sb) : Prop where
  nu0 : 1 ≤ s.nu
  nu1 : s.nu ≤ 1048576
  pr : 0 ≤ s.pr ∧ s.pr ≤ 9
  few : s.gs.length ≤ 128
  par : ∀ j, j < s.gs.length → parE (gnv s.gs j).ch (gnv s.gs j).at_ = 0
  lev : ∀ j, j < s.gs.length → 0 ≤ (gnv s.gs j).lev ∧ (gnv s.gs j).lev ≤ 65535
  bef : ∀ j, j < s.gs.length → ∀ i, i < j → befP (gnv s.gs i).ch (gnv s.gs i).at_ (gnv s.gs j).ch (gnv s.gs j).at_
theorem befP_trans {c a d b e f : Int} (h1 : befP c a d b) (h2 : befP d b e f) : befP c a e f := by unfold befP at *; omega
theorem bef_all {l : List Gn} (h : ∀ j, j < l.length → 0 < j → befP (gnv l (j - 1)).ch (gnv l (j - 1)).at_ (gnv l j).ch (gnv l j).at_) : ∀ j, j < l.length → ∀ i, i < j → befP (gnv l i).ch (gnv l i).at_ (gnv l j).ch (gnv l j).at_ := by
  intro j
  induction j with
  | zero => intro _ i hi; omega
  | succ j ih =>
    intro hj i hi
    have h1 := h (j + 1) hj (by omega)
    rw [Nat.add_sub_cancel] at h1
    by_cases e : i = j
    · subst e; exact h1
    · exact befP_trans (ih (by omega) i (by omega)) h1
theorem subOk {s : Sb} (h : sbE s = 0) : SubOk s := by
  unfold sbE at h
  by_cases h1 : s.nu < 1 ∨ 1048576 < s.nu ∨ s.pr < 0 ∨ 9 < s.pr
  · rw [subE_num h1] at h; omega
  by_cases h2 : 128 < s.gs.length
  · rw [subE_many h1 h2] at h; omega
  rw [subE_gs h1 h2] at h
  have hz := gaE_zero _ 0 (by omega) h
  exact ⟨by omega, by omega, by omega, by omega, fun j hj => (hz j (by omega) hj).1, fun j hj => (hz j (by omega) hj).2.1, bef_all fun j hj => (hz j (by omega) hj).2.2⟩
theorem tuE_zero {l : List Sb} : ∀ (n i : Nat), i + n = l.length → tuE l n i = 0 → ∀ j, i ≤ j → j < l.length → sbE (sbv l j) = 0 ∧ lastS l j < (sbv l j).nu := by
  intro n
  induction n with
  | zero => intro i h _ j h1 h2; omega
  | succ n ih =>
    intro i h h0 j h1 h2
    by_cases c1 : sbE (sbv l i) = 0
    · by_cases c2 : (sbv l i).nu ≤ lastS l i
      · rw [tuE_ord c1 c2] at h0; omega
      rw [tuE_go c1 c2] at h0
      by_cases e : j = i
      · subst e; exact ⟨c1, by omega⟩
      · exact ih (i + 1) (by omega) h0 j (by omega) h2
    · rw [tuE_bad c1] at h0; exact absurd h0 c1
theorem num_all {c : Nat → Int} {n : Nat} (h : ∀ j, j + 1 < n → c j < c (j + 1)) : ∀ j, j < n → ∀ i, i < j → c i < c j := by
  intro j
  induction j with
  | zero => intro _ i hi; omega
  | succ j ih =>
    intro hj i hi
    have h1 := h j hj
    by_cases e : i = j
    · subst e; exact h1
    · have := ih (by omega) i (by omega); omega
/-- What a right table is. -/
structure TabOk (l : List Sb) : Prop where
  few : l.length ≤ 16
  ok : ∀ j, j < l.length → sbE (sbv l j) = 0
  ord : ∀ j, j < l.length → ∀ i, i < j → (sbv l i).nu < (sbv l j).nu
theorem tabOk {l : List Sb} (h : tabE l = 0) : TabOk l := by
  by_cases h1 : 16 < l.length
  · rw [tabE_many h1] at h; omega
  rw [tabE_few h1] at h
  have hz := tuE_zero _ 0 (by omega) h
  exact ⟨by omega, fun j hj => (hz j (by omega) hj).1, num_all fun j hj => (hz (j + 1) (by omega) hj).2⟩
theorem fuE_zero {l : List Fdr} : ∀ (n i : Nat), i + n = l.length → fuE l n i = 0 → ∀ j, i ≤ j → j < l.length → (1 ≤ (fdv l j).su ∧ (fdv l j).su ≤ 1048576) ∧ fgE (fdv l j) = 0 ∧ (0 ≤ (fdv l j).stp ∧ (fdv l j).stp ≤ 10000000) ∧ lastF l j < (fdv l j).su := by
  intro n
  induction n with
  | zero => intro i h _ j h1 h2; omega
  | succ n ih =>
    intro i h h0 j h1 h2
    by_cases c0 : (fdv l i).su < 1 ∨ 1048576 < (fdv l i).su
    · rw [fuE_su c0] at h0; omega
    by_cases c1 : fgE (fdv l i) = 0
    · by_cases c2 : (fdv l i).stp < 0 ∨ 10000000 < (fdv l i).stp
      · rw [fuE_stp c0 c1 c2] at h0; omega
      by_cases c3 : (fdv l i).su ≤ lastF l i
      · rw [fuE_ord c0 c1 c2 c3] at h0; omega
      rw [fuE_go c0 c1 c2 c3] at h0
      by_cases e : j = i
      · subst e; exact ⟨by omega, c1, by omega, by omega⟩
      · exact ih (i + 1) (by omega) h0 j (by omega) h2
    · rw [fuE_gl c0 c1] at h0; exact absurd h0 c1
/-- What right faders are. -/
structure FacOk (l : List Fdr) : Prop where
  few : l.length ≤ 16
  su : ∀ j, j < l.length → 1 ≤ (fdv l j).su ∧ (fdv l j).su ≤ 1048576
  gl : ∀ j, j < l.length → fgE (fdv l j) = 0
  stp : ∀ j, j < l.length → 0 ≤ (fdv l j).stp ∧ (fdv l j).stp ≤ 10000000
  ord : ∀ j, j < l.length → ∀ i, i < j → (fdv l i).su < (fdv l j).su
theorem facOk {l : List Fdr} (h : facE l = 0) : FacOk l := by
  by_cases h1 : 16 < l.length
  · rw [facE_many h1] at h; omega
  rw [facE_few h1] at h
  have hz := fuE_zero _ 0 (by omega) h
  exact ⟨by omega, fun j hj => (hz j (by omega) hj).1, fun j hj => (hz j (by omega) hj).2.1, fun j hj => (hz j (by omega) hj).2.2.1, num_all fun j hj => (hz (j + 1) (by omega) hj).2.2.2⟩
-- found
theorem find_at {α : Type} {p : α → Bool} {l : List α} {i : Nat} (h : i < l.length) (hp : p (l[i]'h) = true) (hb : ∀ j (hj : j < i), p (l[j]'(by omega)) = false) : l.find? p = some (l[i]'h) := by
  rw [List.find?_eq_some_iff_getElem]
  exact ⟨hp, i, h, rfl, fun j hj => by rw [hb j hj]; rfl⟩
theorem find_no {α : Type} {p : α → Bool} {l : List α} (hb : ∀ j (hj : j < l.length), p (l[j]'hj) = false) : l.find? p = none := by
  rw [List.find?_eq_none]
  intro x hx
  obtain ⟨j, hj, rfl⟩ := List.getElem_of_mem hx
  rw [hb j hj]; exact Bool.false_ne_true
/-- The place of the first element for which p holds; -1 if there is none. -/
def ixOf {α : Type} (p : α → Bool) (l : List α) : Int := match l.findIdx? p with | some i => (i : Int) | none => -1
theorem ixOf_at {α : Type} {p : α → Bool} {l : List α} {i : Nat} (h : i < l.length) (hp : p (l[i]'h) = true) (hb : ∀ j (hj : j < i), p (l[j]'(by omega)) = false) : ixOf p l = (i : Int) := by
  unfold ixOf
  rw [show l.findIdx? p = some i from List.findIdx?_eq_some_iff_getElem.2 ⟨h, hp, fun j hj => by rw [hb j hj]; exact Bool.false_ne_true⟩]
theorem ixOf_no {α : Type} {p : α → Bool} {l : List α} (hb : ∀ j (hj : j < l.length), p (l[j]'hj) = false) : ixOf p l = -1 := by
  unfold ixOf
  rw [show l.findIdx? p = none from List.findIdx?_eq_none_iff.2 fun x hx => by obtain ⟨j, hj, rfl⟩ := List.getElem_of_mem hx; exact hb j hj]
/-- The fader of a submaster. -/
def fadD (nu : Int) (inh : Bool) : Fdr := if inh then ⟨nu, [54, 53, 53, 51, 53], 65535, 0, 0, 0⟩ else ⟨nu, [48], 0, 0, 0, 0⟩
def fadG (nu : Int) (inh : Bool) (l : List Fdr) : Fdr := match l.find? (fun f => f.su == nu) with | some f => f | none => fadD nu inh
theorem fadG_at {nu : Int} {inh : Bool} {l : List Fdr} {i : Nat} (h : i < l.length) (hp : (fdv l i).su = nu) (hb : ∀ j, j < i → (fdv l j).su ≠ nu) : fadG nu inh l = fdv l i := by
  unfold fadG
  rw [find_at h (by rw [fdv_at h]; simpa using hp) (fun j hj => by rw [fdv_at (by omega)]; simpa using hb j hj), fdv_at h]
theorem fadG_no {nu : Int} {inh : Bool} {l : List Fdr} (hb : ∀ j, j < l.length → (fdv l j).su ≠ nu) : fadG nu inh l = fadD nu inh := by
  unfold fadG
  rw [find_no (fun j hj => by rw [fdv_at hj]; simpa using hb j hj)]
/-- The gain of a parameter. -/
def gnG (gs : List Gn) (ch at_ : Int) : Option Int := (gs.find? (fun g => g.ch == ch && g.at_ == at_)).map (·.lev)
theorem gnG_at {gs : List Gn} {ch at_ : Int} {i : Nat} (h : i < gs.length) (hp : (gnv gs i).ch = ch ∧ (gnv gs i).at_ = at_) (hb : ∀ j, j < i → ¬ ((gnv gs j).ch = ch ∧ (gnv gs j).at_ = at_)) : gnG gs ch at_ = some (gnv gs i).lev := by
  unfold gnG
  rw [find_at h (by rw [gnv_at h]; simpa using hp) (fun j hj => by rw [gnv_at (by omega)]; simpa using hb j hj), gnv_at h]; rfl
theorem gnG_no {gs : List Gn} {ch at_ : Int} (hb : ∀ j, j < gs.length → ¬ ((gnv gs j).ch = ch ∧ (gnv gs j).at_ = at_)) : gnG gs ch at_ = none := by
  unfold gnG
  rw [find_no (fun j hj => by rw [gnv_at hj]; simpa using hb j hj)]; rfl
/-- Where a search by halves ends. -/
def Halved (c : Nat → Int) (n i : Nat) : Prop := i ≤ n ∧ (0 < i → c (i - 1) < 0) ∧ (i < n → 0 ≤ c i)
theorem num_hit {c : Nat → Int} {t : Int} {n i : Nat} (hs : ∀ j, j < n → ∀ k, k < j → c k < c j) (h : Halved (fun k => c k - t) n i) : ∀ j, j < n → c j = t → j = i := by
  intro j hj e
  obtain ⟨h1, h2, h3⟩ := h
  rcases Nat.lt_trichotomy j i with g | g | g
  · have h4 := h2 (by omega)
    dsimp only at h4
    by_cases e2 : j = i - 1
    · subst e2; omega
    · have := hs (i - 1) (by omega) j (by omega); omega
  · exact g
  · have h4 := h3 (by omega)
    dsimp only at h4
    have := hs j hj i g; omega
theorem fac_hit {l : List Fdr} {nu : Int} {inh : Bool} {i : Nat} (h : FacOk l) (hh : Halved (fun k => (fdv l k).su - nu) l.length i) : fadG nu inh l = (if i < l.length ∧ (fdv l i).su - nu = 0 then fdv l i else fadD nu inh) := by
  have hu := num_hit (c := fun k => (fdv l k).su) h.ord hh
  by_cases c : i < l.length ∧ (fdv l i).su - nu = 0
  · rw [if_pos c]
    exact fadG_at c.1 (by omega) (fun j hj e => by have := hu j (by omega) e; omega)
  · rw [if_neg c]
    exact fadG_no (fun j hj e => by have h4 := hu j hj e; subst h4; exact c ⟨hj, by omega⟩)
theorem gns_hit {gs : List Gn} {ch at_ : Int} {i : Nat} (hs : ∀ j, j < gs.length → ∀ k, k < j → befP (gnv gs k).ch (gnv gs k).at_ (gnv gs j).ch (gnv gs j).at_) (hh : Halved (fun k => cmpP (gnv gs k).ch (gnv gs k).at_ ch at_) gs.length i) :
    gnG gs ch at_ = (if i < gs.length ∧ cmpP (gnv gs i).ch (gnv gs i).at_ ch at_ = 0 then some (gnv gs i).lev else none) := by
  obtain ⟨h1, h2, h3⟩ := hh
  dsimp only at h2 h3
  have hu : ∀ j, j < gs.length → ((gnv gs j).ch = ch ∧ (gnv gs j).at_ = at_) → j = i := by
    intro j hj ⟨e1, e2⟩
    rcases Nat.lt_trichotomy j i with g | g | g
    · have h4 := cmpP_neg.1 (Int.not_le.2 (h2 (by omega)))
      by_cases e : j = i - 1
      · subst e; rw [e1, e2] at h4; unfold befP at h4; omega
      · have h5 := befP_trans (hs (i - 1) (by omega) j (by omega)) h4
        rw [e1, e2] at h5; unfold befP at h5; omega
    · exact g
    · have h4 := hs j hj i g
      rw [e1, e2] at h4
      exact absurd (h3 (by omega)) (cmpP_neg.2 h4)
  by_cases c : i < gs.length ∧ cmpP (gnv gs i).ch (gnv gs i).at_ ch at_ = 0
  · rw [if_pos c]
    exact gnG_at c.1 (cmpP_zero.1 c.2) (fun j hj e => by have := hu j (by omega) e; omega)
  · rw [if_neg c]
    exact gnG_no (fun j hj e => by have h4 := hu j hj e; subst h4; exact c ⟨hj, cmpP_zero.2 e⟩)
theorem fadD_fg (nu : Int) (inh : Bool) : fgE (fadD nu inh) = 0 := by
  cases inh
  · show glE [48] 0 0 0 = 0; decide +kernel
  · show glE [54, 53, 53, 51, 53] 65535 0 0 = 0; decide +kernel
theorem fadD_len (nu : Int) (inh : Bool) : (fadD nu inh).fr.length ≤ 60 := by
  cases inh
  · show List.length [48] ≤ 60; decide
  · show List.length [54, 53, 53, 51, 53] ≤ 60; decide
theorem fadG_or (nu : Int) (inh : Bool) (l : List Fdr) : (∃ i, i < l.length ∧ fadG nu inh l = fdv l i) ∨ fadG nu inh l = fadD nu inh := by
  unfold fadG
  cases h : l.find? (fun f => f.su == nu) with
  | none => exact .inr rfl
  | some f =>
    obtain ⟨j, hj, e⟩ := List.getElem_of_mem (List.mem_of_find?_eq_some h)
    exact .inl ⟨j, hj, by rw [← fdv_at hj, e]⟩
theorem fadG_fg {nu : Int} {inh : Bool} {l : List Fdr} (h : FacOk l) : fgE (fadG nu inh l) = 0 := by
  rcases fadG_or nu inh l with ⟨i, hi, e⟩ | e
  · rw [e]; exact h.gl i hi
  · rw [e]; exact fadD_fg nu inh
theorem fadG_lenK {nu : Int} {inh : Bool} {l : List Fdr} (h : ∀ i, i < l.length → (fdv l i).fr.length ≤ 1000) : (fadG nu inh l).fr.length ≤ 1000 := by
  rcases fadG_or nu inh l with ⟨i, hi, e⟩ | e
  · rw [e]; exact h i hi
  · rw [e]; exact Nat.le_trans (fadD_len nu inh) (by decide)
theorem fadG_len {nu : Int} {inh : Bool} {l : List Fdr} (h : ∀ i, i < l.length → (fdv l i).fr.length ≤ 60) : (fadG nu inh l).fr.length ≤ 60 := by
  rcases fadG_or nu inh l with ⟨i, hi, e⟩ | e
  · rw [e]; exact h i hi
  · rw [e]; exact fadD_len nu inh
/-- The level of a fader. -/
def fadL (f : Fdr) (t : Int) : Rat := glV (valR f.fr) f.tz f.st f.ti t
def lvlQ (nu : Int) (inh : Bool) (l : List Fdr) (t : Int) : Rat := fadL (fadG nu inh l) t
/-- What is left of 1 by a gain at a level. -/
def losQ (g : Int) (q : Rat) : Rat := 1 - ((((65535 : Int) : Rat) - q) * Rat.divInt g 65535) / ((65535 : Int) : Rat)
/-- The factor of a submaster. -/
def sclQ (s : Sb) (l : List Fdr) (ch t : Int) : Rat := match gnG s.gs ch 0 with | some g => if s.inh then losQ g (lvlQ s.nu s.inh l t) else 1 | none => 1
theorem sclQ_no {s : Sb} {l : List Fdr} {ch t : Int} (h : gnG s.gs ch 0 = none) : sclQ s l ch t = 1 := by unfold sclQ; rw [h]
theorem sclQ_add {s : Sb} {l : List Fdr} {ch t : Int} (h : s.inh = false) : sclQ s l ch t = 1 := by unfold sclQ; rw [h]; cases gnG s.gs ch 0 <;> rfl
theorem sclQ_is {s : Sb} {l : List Fdr} {ch t g : Int} (h : gnG s.gs ch 0 = some g) (h2 : s.inh = true) : sclQ s l ch t = losQ g (lvlQ s.nu s.inh l t) := by unfold sclQ; rw [h, h2]; rfl
theorem gnG_range {s : Sb} {ch at_ g : Int} (h : SubOk s) (hg : gnG s.gs ch at_ = some g) : 0 ≤ g ∧ g ≤ 65535 := by
  unfold gnG at hg
  rw [Option.map_eq_some_iff] at hg
  obtain ⟨x, hx, rfl⟩ := hg
  obtain ⟨j, hj, e⟩ := List.getElem_of_mem (List.mem_of_find?_eq_some hx)
  rw [← e, gnv_at hj]; exact h.lev j hj
/-- A right glide's number. -/
theorem glq {fr : Txt} {tz st ti : Int} (h : glE fr tz st ti = 0) : ∃ q, fr = showR q ∧ valR fr = q ∧ (0 ≤ q ∧ q ≤ ((65535 : Int) : Rat)) ∧ (0 ≤ tz ∧ tz ≤ 65535) ∧ ((0 ≤ st ∧ st ≤ 10000000) ∧ (0 ≤ ti ∧ ti ≤ 10000000)) := by
  obtain ⟨h1, h2, h3⟩ := glE_zero h
  obtain ⟨q, rfl, h4, h5⟩ := levE_zero h1
  exact ⟨q, rfl, valR_showR q, ⟨h4, h5⟩, h2, h3⟩
theorem fadL_fits {f : Fdr} (t : Int) (h : fgE f = 0) (hl : f.fr.length ≤ 60) : Fits 182 (fadL f t) := by
  unfold fgE at h
  obtain ⟨q, e1, e2, -, h2, h3, h4⟩ := glq h
  unfold fadL
  rw [e2]
  exact glV_fits t (fits_of_len (k := 60) (by rw [← e1]; exact hl)) h2.1 h2.2 h3.1 h3.2 h4.2
theorem k65_ne : ((65535 : Int) : Rat) ≠ 0 := by decide +kernel
theorem div65_fits {g : Int} (h0 : 0 ≤ g) (h1 : g ≤ 65535) : Fits 5 (Rat.divInt g 65535) := by
  have h5 : (10 : Nat) ^ 5 = 100000 := by decide
  exact divInt_fits g 65535 (by decide) 5 ((dl_le (by omega)).2 (by rw [h5]; omega)) ((dl_le (by omega)).2 (by rw [h5]; decide))
theorem losQ_fits {g : Int} {q : Rat} (h0 : 0 ≤ g) (h1 : g ≤ 65535) (hq : Fits 182 q) : Fits 200 (losQ g q) := by
  unfold losQ
  exact (fits_sub2 fits_1 (fits_div2 (fits_mul2 (fits_sub2 f65 hq) (div65_fits h0 h1)) f65 k65_ne)).mono (by omega)
theorem sclQ_fits {s : Sb} {l : List Fdr} {ch : Int} (t : Int) (hs : SubOk s) (hl : FacOk l) (hf : ∀ i, i < l.length → (fdv l i).fr.length ≤ 60) : Fits 200 (sclQ s l ch t) := by
  unfold sclQ
  split
  · rename_i g hg
    split
    · exact losQ_fits (gnG_range hs hg).1 (gnG_range hs hg).2 (fadL_fits t (fadG_fg hl) (fadG_len hf))
    · exact fits_1.mono (by omega)
  · exact fits_1.mono (by omega)
theorem losQ_ref (g : Int) (q : Rat) : (1 : Rat) - Rat.divInt g 65535 * (1 - q * Rat.divInt 1 65535) = losQ g q := by
  unfold losQ
  rw [Rat.divInt_eq_div, Rat.divInt_eq_div, show ((65535 : Int) : Rat) = 65535 from rfl, show ((1 : Int) : Rat) = 1 from rfl]
  grind
end Lum
