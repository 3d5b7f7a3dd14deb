/-
  Waves: the plain laws.
-/
import Derived.Test.YtbamcfhmkohbmaaGreatDoorWc
import Derived.Test.YtbamcfhmkohbmaaGreatDoorWa
set_option linter.unusedVariables false
set_option linter.unusedSimpArgs false
namespace Lum
open Go Go.RowKit Go.Shelf
open Go.Lib (decDigits itoa)
theorem scanW_zero {l : List (Int × Int)} : ∀ {n i : Nat}, scanW l n i = 0 → ∀ j, i ≤ j → j < i + n → (-1000 ≤ pY l j ∧ pY l j ≤ 1000) ∧ (0 < j → pX l (j - 1) < pX l j)
  | 0, i, _, j, h1, h2 => by omega
  | n + 1, i, h, j, h1, h2 => by
    rw [scanW] at h
    split at h
    · cases h
    · rename_i g1
      split at h
      · cases h
      · rename_i g2
        by_cases e : j = i
        · subst e; exact ⟨by omega, fun h0 => by omega⟩
        · exact scanW_zero h j (by omega) (by omega)
/-- A right wave. -/
structure Wv (l : List (Int × Int)) : Prop where
  lo : 2 ≤ l.length
  hi : l.length ≤ 16
  x0 : pX l 0 = 0
  x1 : pX l (l.length - 1) = 1000
  h : ∀ i, i < l.length → -1000 ≤ pY l i ∧ pY l i ≤ 1000
  s : ∀ i, i + 1 < l.length → pX l i < pX l (i + 1)
  y : pY l 0 = pY l (l.length - 1)
theorem wvE_zero {l : List (Int × Int)} (h : wvE l = 0) : Wv l := by
  unfold wvE at h
  by_cases h1 : l.length < 2 ∨ 16 < l.length
  · rw [if_pos h1] at h; cases h
  rw [if_neg h1] at h
  by_cases h2 : pX l 0 ≠ 0 ∨ pX l (l.length - 1) ≠ 1000
  · rw [if_pos h2] at h; cases h
  rw [if_neg h2] at h
  by_cases h3 : scanW l l.length 0 ≠ 0
  · rw [if_pos h3] at h; exact absurd h h3
  rw [if_neg h3] at h
  by_cases h4 : pY l 0 ≠ pY l (l.length - 1)
  · rw [if_pos h4] at h; cases h
  have hs := scanW_zero (Decidable.not_not.1 h3)
  exact ⟨by omega, by omega, by omega, by omega, fun i hi => (hs i (by omega) (by omega)).1, fun i hi => by simpa using (hs (i + 1) (by omega) (by omega)).2 (by omega), Decidable.not_not.1 h4⟩
theorem Wv.mono {l : List (Int × Int)} (w : Wv l) : ∀ {j i : Nat}, i ≤ j → j < l.length → pX l i ≤ pX l j
  | 0, i, h, _ => by obtain rfl : i = 0 := by omega
                     exact Int.le_refl _
  | j + 1, i, h, hj => by
    by_cases e : i = j + 1
    · subst e; exact Int.le_refl _
    · have := w.mono (show i ≤ j by omega) (by omega)
      have := w.s j hj
      omega
theorem Wv.range {l : List (Int × Int)} (w : Wv l) {i : Nat} (hi : i < l.length) : 0 ≤ pX l i ∧ pX l i ≤ 1000 := by
  have h1 := w.mono (show 0 ≤ i by omega) hi
  have h2 := w.mono (show i ≤ l.length - 1 by omega) (by have := w.lo; omega)
  rw [w.x0] at h1; rw [w.x1] at h2
  exact ⟨h1, h2⟩
/-- The place in one turn. -/
def place (x : Rat) : Rat := x - 1000 * ((x / 1000).floor : Rat)
theorem place_range (x : Rat) : 0 ≤ place x ∧ place x < 1000 := by
  have h1 := Rat.floor_le (x / 1000)
  have h2 := Rat.lt_floor_add_one (x / 1000)
  rw [Rat.intCast_add] at h2
  unfold place
  constructor <;> grind
/-- The interval in which a place lies, from k on. -/
def kW (l : List (Int × Int)) (at_ : Rat) : Nat → Nat → Nat
  | 0, k => k
  | n + 1, k => if k + 2 < l.length ∧ (pX l (k + 1) : Rat) ≤ at_ then kW l at_ n (k + 1) else k
theorem kW_spec (l : List (Int × Int)) (at_ : Rat) : ∀ (n k : Nat), l.length ≤ k + n + 2 → k + 1 < l.length → (pX l k : Rat) ≤ at_ →
    k ≤ kW l at_ n k ∧ kW l at_ n k + 1 < l.length ∧ (pX l (kW l at_ n k) : Rat) ≤ at_ ∧ (kW l at_ n k + 2 < l.length → at_ < (pX l (kW l at_ n k + 1) : Rat))
  | 0, k, h1, h2, h3 => by
    rw [kW]; exact ⟨Nat.le_refl _, h2, h3, fun h => by omega⟩
  | n + 1, k, h1, h2, h3 => by
    rw [kW]
    by_cases h : k + 2 < l.length ∧ (pX l (k + 1) : Rat) ≤ at_
    · rw [if_pos h]
      obtain ⟨a, b, c, d⟩ := kW_spec l at_ n (k + 1) (by omega) (by omega) h.2
      exact ⟨by omega, b, c, d⟩
    · rw [if_neg h]
      exact ⟨Nat.le_refl _, h2, h3, fun hh => Rat.not_le.1 fun hx => h ⟨hh, hx⟩⟩
/-- The height at a place. -/
def hgtW (l : List (Int × Int)) (x : Rat) : Rat :=
  let k := kW l (place x) l.length 0
  (pY l k : Rat) + ((pY l (k + 1) : Rat) - (pY l k : Rat)) * ((place x - (pX l k : Rat)) / ((pX l (k + 1) - pX l k : Int) : Rat))
theorem place_add (x : Rat) (n : Int) : place (x + (1000 * n : Int)) = place x := by
  unfold place
  have e : (x + ((1000 * n : Int) : Rat)) / 1000 = x / 1000 + (n : Rat) := by rw [Rat.intCast_mul, show ((1000 : Int) : Rat) = 1000 from rfl]; grind
  rw [e, Rat.floor_add_intCast, Rat.intCast_add, Rat.intCast_mul, show ((1000 : Int) : Rat) = 1000 from rfl]
  grind
/-- The height on the line of an interval. -/
def segW (l : List (Int × Int)) (k : Nat) (at_ : Rat) : Rat := (pY l k : Rat) + ((pY l (k + 1) : Rat) - (pY l k : Rat)) * ((at_ - (pX l k : Rat)) / ((pX l (k + 1) - pX l k : Int) : Rat))
theorem hgtW_seg (l : List (Int × Int)) (x : Rat) : hgtW l x = segW l (kW l (place x) l.length 0) (place x) := rfl
theorem castlt {a b : Int} (h : a < b) : (a : Rat) < (b : Rat) := Rat.intCast_lt_intCast.2 h
theorem castle {a b : Int} (h : a ≤ b) : (a : Rat) ≤ (b : Rat) := Rat.intCast_le_intCast.2 h
theorem segW_end {l : List (Int × Int)} (w : Wv l) {k : Nat} (hk : k + 1 < l.length) : segW l k (pX l (k + 1)) = pY l (k + 1) := by
  unfold segW
  have h := castlt (w.s k hk)
  rw [Rat.intCast_sub]
  have h2 : (pX l (k + 1) : Rat) - (pX l k : Rat) ≠ 0 := by grind
  rw [show ((pX l (k + 1) : Rat) - (pX l k : Rat)) / ((pX l (k + 1) : Rat) - (pX l k : Rat)) = 1 by grind]
  grind
theorem segW_start (l : List (Int × Int)) (k : Nat) : segW l k (pX l k) = pY l k := by
  unfold segW
  rw [Rat.sub_self]
  grind
theorem kW_in {l : List (Int × Int)} (w : Wv l) (x : Rat) : kW l (place x) l.length 0 + 1 < l.length ∧ (pX l (kW l (place x) l.length 0) : Rat) ≤ place x ∧ place x < (pX l (kW l (place x) l.length 0 + 1) : Rat) := by
  obtain ⟨r0, r1⟩ := place_range x
  have h2 := w.lo
  obtain ⟨_, b, c, d⟩ := kW_spec l (place x) l.length 0 (by omega) (by omega) (by rw [w.x0]; exact r0)
  refine ⟨b, c, ?_⟩
  by_cases e : kW l (place x) l.length 0 + 2 < l.length
  · exact d e
  · rw [show kW l (place x) l.length 0 + 1 = l.length - 1 by omega, w.x1]; exact r1
theorem hgt_on {l : List (Int × Int)} (w : Wv l) (x : Rat) {k : Nat} (hk : k + 1 < l.length) (h1 : (pX l k : Rat) ≤ place x) (h2 : place x ≤ (pX l (k + 1) : Rat)) : hgtW l x = segW l k (place x) := by
  obtain ⟨b, c, d⟩ := kW_in w x
  rw [hgtW_seg]
  generalize kW l (place x) l.length 0 = j at *
  rcases (show j = k ∨ j < k ∨ k < j by omega) with e | e | e
  · subst e; rfl
  · have := castle (w.mono (show j + 1 ≤ k by omega) (by omega))
    exact absurd d (by grind)
  · have m1 := castle (w.mono (show k + 1 ≤ j by omega) (by omega))
    have e1 : place x = (pX l (k + 1) : Rat) := by grind
    have e2 : j = k + 1 := by
      rcases (show j = k + 1 ∨ k + 2 ≤ j by omega) with h | h
      · exact h
      · have s1 := castlt (w.s (k + 1) (by omega))
        have s2 := castle (w.mono (show k + 1 + 1 ≤ j by omega) (by omega))
        grind
    subst e2
    rw [e1, segW_start, segW_end w hk]
theorem place_int {n : Int} (h0 : 0 ≤ n) (h1 : n < 1000) : place (n : Rat) = n := by
  unfold place
  have e : ((n : Rat) / 1000).floor = 0 := by
    have a : 0 ≤ ((n : Rat) / 1000).floor := by
      rw [Rat.le_floor_iff]
      have := castle h0
      rw [show ((0 : Int) : Rat) = 0 from rfl] at *
      grind
    have b : ((n : Rat) / 1000).floor < 1 := by
      rw [Rat.floor_lt_iff]
      have := castlt h1
      rw [show ((1000 : Int) : Rat) = 1000 from rfl] at this
      rw [show ((1 : Int) : Rat) = 1 from rfl]
      grind
    omega
  rw [e, show ((0 : Int) : Rat) = 0 from rfl]
  grind
theorem place_1000 : place ((1000 : Int) : Rat) = 0 := by
  have := place_add 0 1
  rw [Rat.zero_add, show (1000 * 1 : Int) = 1000 from rfl] at this
  rw [this]; exact place_int (n := 0) (by omega) (by omega)
theorem hgt_point {l : List (Int × Int)} (w : Wv l) {i : Nat} (hi : i < l.length) : hgtW l (pX l i : Rat) = pY l i := by
  have h2 := w.lo
  by_cases e : i = l.length - 1
  · subst e
    rw [w.x1]
    have hp : place ((1000 : Int) : Rat) = (pX l 0 : Rat) := by rw [place_1000, w.x0]; rfl
    rw [hgt_on w _ (k := 0) (by omega) (by rw [hp]; exact Rat.le_refl) (by rw [hp]; exact castle (Int.le_of_lt (w.s 0 (by omega)))), hp, segW_start, w.y]
  · have r := w.range hi
    have r2 : pX l i < 1000 := by
      have := w.s i (by omega)
      have := (w.range (show i + 1 < l.length by omega)).2
      omega
    have hp := place_int r.1 r2
    rw [hgt_on w _ (k := i) (by omega) (by rw [hp]; exact Rat.le_refl) (by rw [hp]; exact castle (Int.le_of_lt (w.s i (by omega)))), hp, segW_start]
theorem frac01 {a b c : Rat} (h1 : a ≤ c) (h2 : c < b) : 0 ≤ (c - a) / (b - a) ∧ (c - a) / (b - a) ≤ 1 := by
  have hb : 0 < b - a := by grind
  constructor
  · rw [← Rat.not_lt, Rat.div_lt_iff hb]; grind
  · rw [← Rat.not_lt, Rat.lt_div_iff hb]; grind
theorem hgt_between {l : List (Int × Int)} (w : Wv l) (x : Rat) (lo hi : Int) (hl : ∀ i, i < l.length → lo ≤ pY l i) (hh : ∀ i, i < l.length → pY l i ≤ hi) : (lo : Rat) ≤ hgtW l x ∧ hgtW l x ≤ (hi : Rat) := by
  obtain ⟨b, c, d⟩ := kW_in w x
  rw [hgtW_seg]
  generalize kW l (place x) l.length 0 = j at *
  have a1 := castle (hl j (by omega))
  have a2 := castle (hl (j + 1) b)
  have a3 := castle (hh j (by omega))
  have a4 := castle (hh (j + 1) b)
  obtain ⟨u0, u1⟩ := frac01 c d
  unfold segW
  rw [Rat.intCast_sub]
  generalize (place x - (pX l j : Rat)) / ((pX l (j + 1) : Rat) - (pX l j : Rat)) = u at *
  generalize (pY l j : Rat) = y at *
  generalize (pY l (j + 1) : Rat) = z at *
  have p1 := Rat.mul_nonneg (show 0 ≤ y - (lo : Rat) by grind) (show 0 ≤ 1 - u by grind)
  have p2 := Rat.mul_nonneg (show 0 ≤ z - (lo : Rat) by grind) u0
  have p3 := Rat.mul_nonneg (show 0 ≤ (hi : Rat) - y by grind) (show 0 ≤ 1 - u by grind)
  have p4 := Rat.mul_nonneg (show 0 ≤ (hi : Rat) - z by grind) u0
  constructor <;> grind
/-! ### upside down -/
def flipL (l : List (Int × Int)) : List (Int × Int) := l.map fun p => (p.1, -p.2)
theorem flipL_length (l : List (Int × Int)) : (flipL l).length = l.length := List.length_map _
theorem pX_flip (l : List (Int × Int)) (i : Nat) : pX (flipL l) i = pX l i := by
  unfold pX flipL; rw [List.getElem?_map]; cases l[i]? <;> rfl
theorem pY_flip (l : List (Int × Int)) (i : Nat) : pY (flipL l) i = -pY l i := by
  unfold pY flipL; rw [List.getElem?_map]; cases l[i]? <;> rfl
theorem flipL_flipL (l : List (Int × Int)) : flipL (flipL l) = l := by
  unfold flipL; rw [List.map_map]; conv => rhs; rw [← List.map_id l]
  apply List.map_congr_left; intro p _; simp
theorem Wv.flip {l : List (Int × Int)} (w : Wv l) : Wv (flipL l) := by
  refine ⟨by rw [flipL_length]; exact w.lo, by rw [flipL_length]; exact w.hi, by rw [pX_flip]; exact w.x0, by rw [pX_flip, flipL_length]; exact w.x1, ?_, ?_, ?_⟩
  · intro i hi; rw [flipL_length] at hi; rw [pY_flip]; have := w.h i hi; omega
  · intro i hi; rw [flipL_length] at hi; rw [pX_flip, pX_flip]; exact w.s i hi
  · rw [pY_flip, pY_flip, flipL_length, w.y]
theorem hgt_flip {l : List (Int × Int)} (w : Wv l) (x : Rat) : hgtW (flipL l) x = -hgtW l x := by
  obtain ⟨b, c, d⟩ := kW_in w x
  rw [hgtW_seg l]
  generalize kW l (place x) l.length 0 = j at *
  rw [hgt_on w.flip x (k := j) (by rw [flipL_length]; exact b) (by rw [pX_flip]; exact c) (by rw [pX_flip]; exact Rat.le_of_lt d)]
  unfold segW
  rw [pX_flip, pX_flip, pY_flip, pY_flip, Rat.intCast_neg, Rat.intCast_neg]
  grind
/-! ### backwards -/
def mirL (l : List (Int × Int)) : List (Int × Int) := (l.map fun p => (1000 - p.1, p.2)).reverse
theorem mirL_length (l : List (Int × Int)) : (mirL l).length = l.length := by unfold mirL; simp
theorem mirL_at (l : List (Int × Int)) {i : Nat} (hi : i < l.length) : (mirL l)[i]? = (l[l.length - 1 - i]?).map fun p => (1000 - p.1, p.2) := by
  unfold mirL
  rw [List.getElem?_reverse (by simpa using hi), List.getElem?_map, List.length_map]
theorem pX_mir (l : List (Int × Int)) {i : Nat} (hi : i < l.length) : pX (mirL l) i = 1000 - pX l (l.length - 1 - i) := by
  unfold pX; rw [mirL_at l hi, List.getElem?_eq_getElem (by omega)]; rfl
theorem pY_mir (l : List (Int × Int)) {i : Nat} (hi : i < l.length) : pY (mirL l) i = pY l (l.length - 1 - i) := by
  unfold pY; rw [mirL_at l hi, List.getElem?_eq_getElem (by omega)]; rfl
theorem mirL_mirL (l : List (Int × Int)) : mirL (mirL l) = l := by
  unfold mirL; rw [List.map_reverse, List.reverse_reverse, List.map_map]; conv => rhs; rw [← List.map_id l]
  apply List.map_congr_left; intro p _
  show ((1000 - (1000 - p.1), p.2) : Int × Int) = p
  rw [show 1000 - (1000 - p.1) = p.1 by omega]
theorem Wv.mir {l : List (Int × Int)} (w : Wv l) : Wv (mirL l) := by
  have h0 := w.lo
  refine ⟨by rw [mirL_length]; exact w.lo, by rw [mirL_length]; exact w.hi, ?_, ?_, ?_, ?_, ?_⟩
  · rw [pX_mir l (by omega), show l.length - 1 - 0 = l.length - 1 by omega, w.x1]; omega
  · rw [mirL_length, pX_mir l (by omega), show l.length - 1 - (l.length - 1) = 0 by omega, w.x0]; omega
  · intro i hi; rw [mirL_length] at hi; rw [pY_mir l hi]; exact w.h _ (by omega)
  · intro i hi; rw [mirL_length] at hi; rw [pX_mir l (by omega), pX_mir l hi]
    have := w.s (l.length - 1 - (i + 1)) (by omega)
    rw [show l.length - 1 - (i + 1) + 1 = l.length - 1 - i by omega] at this
    omega
  · rw [mirL_length, pY_mir l (by omega), pY_mir l (by omega), show l.length - 1 - 0 = l.length - 1 by omega, show l.length - 1 - (l.length - 1) = 0 by omega, w.y]
theorem place_neg (x : Rat) : (place x = 0 → place (-x) = 0) ∧ (place x ≠ 0 → place (-x) = 1000 - place x) := by
  obtain ⟨r0, r1⟩ := place_range x
  have hx : x = place x + 1000 * ((x / 1000).floor : Rat) := by unfold place; grind
  have key : ∀ y : Rat, 0 ≤ y → y < 1000 → ∀ n : Int, x = y + 1000 * (n : Rat) → True := fun _ _ _ _ _ => trivial
  have hp : ∀ (y : Rat) (n : Int), 0 ≤ y → y < 1000 → -x = y + ((1000 * n : Int) : Rat) → place (-x) = y := by
    intro y n h0 h1 e
    rw [e, place_add]
    unfold place
    have : (y / 1000).floor = 0 := by
      have a : 0 ≤ (y / 1000).floor := by rw [Rat.le_floor_iff, show ((0 : Int) : Rat) = 0 from rfl]; grind
      have b : (y / 1000).floor < 1 := by rw [Rat.floor_lt_iff, show ((1 : Int) : Rat) = 1 from rfl]; grind
      omega
    rw [this, show ((0 : Int) : Rat) = 0 from rfl]; grind
  constructor
  · intro e
    refine hp 0 (-(x / 1000).floor) Rat.le_refl (by decide +kernel) ?_
    rw [Rat.intCast_mul, Rat.intCast_neg, show ((1000 : Int) : Rat) = 1000 from rfl]
    rw [e] at hx
    grind
  · intro e
    refine hp (1000 - place x) (-(x / 1000).floor - 1) (by grind) (by grind) ?_
    rw [Rat.intCast_mul, Rat.intCast_sub, Rat.intCast_neg, show ((1000 : Int) : Rat) = 1000 from rfl, show ((1 : Int) : Rat) = 1 from rfl]
    grind
theorem hgt_mir {l : List (Int × Int)} (w : Wv l) (x : Rat) : hgtW (mirL l) (-x) = hgtW l x := by
  have h0 := w.lo
  by_cases e : place x = 0
  · have e2 := (place_neg x).1 e
    have a := hgt_on w x (k := 0) (by omega) (by rw [e, w.x0]; exact Rat.le_refl) (by rw [e]; have := castle (w.range (show 0 + 1 < l.length by omega)).1; exact this)
    have hm := w.mir
    have b := hgt_on hm (-x) (k := 0) (by rw [mirL_length]; omega) (by rw [e2, hm.x0]; exact Rat.le_refl) (by rw [e2]; have := castle (hm.range (show 0 + 1 < (mirL l).length by rw [mirL_length]; omega)).1; exact this)
    rw [a, b, e, e2]
    have c1 := segW_start l 0
    have c2 := segW_start (mirL l) 0
    rw [w.x0] at c1
    rw [hm.x0] at c2
    rw [show ((0 : Int) : Rat) = 0 from rfl] at c1 c2
    rw [c1, c2, pY_mir l (by omega), show l.length - 1 - 0 = l.length - 1 by omega, w.y]
  · have e2 := (place_neg x).2 e
    obtain ⟨b, c, d⟩ := kW_in w x
    rw [hgtW_seg l]
    generalize kW l (place x) l.length 0 = j at *
    have x1 : pX (mirL l) (l.length - 2 - j) = 1000 - pX l (j + 1) := by rw [pX_mir l (by omega)]; congr 2; omega
    have x2 : pX (mirL l) (l.length - 2 - j + 1) = 1000 - pX l j := by rw [pX_mir l (by omega)]; congr 2; omega
    have y1 : pY (mirL l) (l.length - 2 - j) = pY l (j + 1) := by rw [pY_mir l (by omega)]; congr 1; omega
    have y2 : pY (mirL l) (l.length - 2 - j + 1) = pY l j := by rw [pY_mir l (by omega)]; congr 1; omega
    rw [hgt_on w.mir (-x) (k := l.length - 2 - j) (by rw [mirL_length]; omega) (by rw [e2, x1, Rat.intCast_sub, show ((1000 : Int) : Rat) = 1000 from rfl]; grind) (by rw [e2, x2, Rat.intCast_sub, show ((1000 : Int) : Rat) = 1000 from rfl]; grind)]
    unfold segW
    rw [x1, x2, y1, y2, e2]
    have h := castlt (w.s j b)
    simp only [Rat.intCast_sub]
    rw [show ((1000 : Int) : Rat) = 1000 from rfl]
    generalize (pX l (j + 1) : Rat) = X at *
    generalize (pX l j : Rat) = x' at *
    generalize (pY l (j + 1) : Rat) = Y at *
    generalize (pY l j : Rat) = y at *
    generalize place x = p at *
    have hne : X - x' ≠ 0 := by grind
    rw [show (1000 : Rat) - x' - (1000 - X) = X - x' by grind, show (1000 : Rat) - p - (1000 - X) = (X - x') - (p - x') by grind]
    rw [show (X - x' - (p - x')) / (X - x') = 1 - (p - x') / (X - x') by grind]
    grind
/-! ### without points that do not bend it -/
/-- b lies on the line through a and c. -/
def strt (a b c : Int × Int) : Bool := decide ((b.2 - a.2) * (c.1 - a.1) = (c.2 - a.2) * (b.1 - a.1))
theorem strt_skip {a b c d : Int × Int} (h1 : a.1 < b.1) (h2 : b.1 < c.1) (h3 : c.1 < d.1) (h : strt b c d = true) : strt a b d = strt a b c := by
  unfold strt at *
  rw [decide_eq_true_eq] at h
  rw [decide_eq_decide]
  have e : ∀ k : Int, k ≠ 0 → ∀ u v : Int, k * u = k * v → u = v := fun k hk u v => Int.eq_of_mul_eq_mul_left hk
  have _ := h1
  constructor
  · intro g
    refine e (d.1 - b.1) (by omega) _ _ ?_
    grind
  · intro g
    refine e (c.1 - b.1) (by omega) _ _ ?_
    grind
def pt (l : List (Int × Int)) (i : Nat) : Int × Int := l[i]?.getD (0, 0)
theorem pX_pt (l : List (Int × Int)) (i : Nat) : pX l i = (pt l i).1 := rfl
theorem pY_pt (l : List (Int × Int)) (i : Nat) : pY l i = (pt l i).2 := rfl
def strtAt (l : List (Int × Int)) (i : Nat) : Bool := strt (pt l (i - 1)) (pt l i) (pt l (i + 1))
theorem pt_erase (l : List (Int × Int)) (i j : Nat) : pt (l.eraseIdx i) j = if j < i then pt l j else pt l (j + 1) := by
  unfold pt
  rw [List.getElem?_eraseIdx]
  split <;> rfl
/-- Strictly rising places. -/
def Rise (l : List (Int × Int)) : Prop := ∀ i, i + 1 < l.length → pX l i < pX l (i + 1)
theorem Rise.lt {l : List (Int × Int)} (h : Rise l) : ∀ {j i : Nat}, i < j → j < l.length → pX l i < pX l j
  | 0, i, hij, _ => by omega
  | j + 1, i, hij, hj => by
    by_cases e : i = j
    · subst e; exact h i hj
    · have := h.lt (show i < j by omega) (by omega)
      have := h j hj
      omega
theorem Rise.erase {l : List (Int × Int)} (h : Rise l) {i : Nat} (hi : i < l.length) : Rise (l.eraseIdx i) := by
  intro k hk
  rw [List.length_eraseIdx_of_lt hi] at hk
  rw [pX_pt, pX_pt, pt_erase, pt_erase]
  split
  · split
    · exact h k (by omega)
    · exact h.lt (show k < k + 1 + 1 by omega) (by omega)
  · split
    · omega
    · exact h (k + 1) (by omega)
theorem strtAt_before {l : List (Int × Int)} (h : Rise l) {i j : Nat} (hi : i + 1 < l.length) (h1 : 1 ≤ j) (hj : j < i) (hs : strtAt l i = true) : strtAt (l.eraseIdx i) j = strtAt l j := by
  unfold strtAt
  rw [pt_erase, pt_erase, pt_erase, if_pos (by omega), if_pos hj]
  by_cases e : j + 1 < i
  · rw [if_pos e]
  · rw [if_neg e]
    obtain rfl : i = j + 1 := by omega
    unfold strtAt at hs
    rw [show j + 1 - 1 = j by omega] at hs
    exact strt_skip (by have := h (j - 1) (by omega); rw [show j - 1 + 1 = j by omega] at this; exact this) (h j (by omega)) (h (j + 1) hi) hs
/-- As the program does it: from place i on, without looking back. -/
def tidF : Nat → Nat → List (Int × Int) → List (Int × Int)
  | 0, _, l => l
  | n + 1, i, l => if i + 1 < l.length then (if strtAt l i then tidF n i (l.eraseIdx i) else tidF n (i + 1) l) else l
/-- The first place from i on that does not bend. -/
def firstS (l : List (Int × Int)) : Nat → Nat → Option Nat
  | 0, _ => none
  | n + 1, i => if i + 1 < l.length then (if strtAt l i then some i else firstS l n (i + 1)) else none
/-- As the reference does it: from the beginning each time. -/
def tidR : Nat → List (Int × Int) → List (Int × Int)
  | 0, l => l
  | m + 1, l => match firstS l l.length 1 with
    | none => l
    | some i => tidR m (l.eraseIdx i)
theorem firstS_skip (l : List (Int × Int)) : ∀ (k n i : Nat), (∀ j, i ≤ j → j < i + k → strtAt l j = false) → i + k + 1 ≤ l.length → firstS l (n + k) i = firstS l n (i + k)
  | 0, n, i, _, _ => rfl
  | k + 1, n, i, h, hl => by
    rw [show n + (k + 1) = (n + k) + 1 by omega, firstS, if_pos (by omega), if_neg (by rw [h i (by omega) (by omega)]; simp)]
    rw [firstS_skip l k n (i + 1) (fun j h1 h2 => h j (by omega) (by omega)) (by omega)]
    congr 1; omega
theorem tid_same : ∀ (n : Nat) (l : List (Int × Int)) (i m : Nat), Rise l → 1 ≤ i → i ≤ l.length → (∀ j, 1 ≤ j → j < i → strtAt l j = false) → l.length ≤ n + i → l.length ≤ m + 2 + 0 ∨ l.length ≤ m + 2 → tidF n i l = tidR m l
  | 0, l, i, m, hr, h1, hil, hb, hn, hm => by
    have hil2 : i = l.length := by omega
    cases m with
    | zero => rfl
    | succ m =>
      rw [tidF, tidR]
      have : firstS l l.length 1 = none := by
        by_cases h3 : l.length ≤ 2
        · rcases (show l.length = 0 ∨ l.length = 1 ∨ l.length = 2 by omega) with e | e | e <;> rw [e]
          · rfl
          · rw [firstS, if_neg (by omega)]
          · rw [firstS, if_neg (by omega)]
        · have := firstS_skip l (l.length - 2) 2 1 (fun j h4 h5 => hb j h4 (by omega)) (by omega)
          rw [show 2 + (l.length - 2) = l.length by omega] at this
          rw [this, firstS, if_neg (by omega)]
      rw [this]
  | n + 1, l, i, m, hr, h1, hil, hb, hn, hm => by
    rw [tidF]
    by_cases hi : i + 1 < l.length
    · rw [if_pos hi]
      cases hs : strtAt l i
      · rw [if_neg (by simp)]
        exact tid_same n l (i + 1) m hr (by omega) (by omega) (fun j h2 h3 => by
          by_cases e : j = i
          · subst e; exact hs
          · exact hb j h2 (by omega)) (by omega) hm
      · rw [if_pos rfl]
        have hl := List.length_eraseIdx_of_lt (show i < l.length by omega)
        cases m with
        | zero => omega
        | succ m =>
          rw [tidR]
          have hf : firstS l l.length 1 = some i := by
            have := firstS_skip l (i - 1) (l.length - (i - 1)) 1 (fun j h4 h5 => hb j h4 (by omega)) (by omega)
            rw [show l.length - (i - 1) + (i - 1) = l.length by omega, show 1 + (i - 1) = i by omega] at this
            rw [this]
            obtain ⟨k, hk⟩ : ∃ k, l.length - (i - 1) = k + 1 := ⟨l.length - (i - 1) - 1, by omega⟩
            rw [hk, firstS, if_pos hi, if_pos hs]
          rw [hf]
          exact tid_same n (l.eraseIdx i) i m (hr.erase (by omega)) h1 (by omega) (fun j h2 h3 => by rw [strtAt_before hr hi h2 h3 hs]; exact hb j h2 h3) (by omega) (by omega)
    · rw [if_neg hi]
      cases m with
      | zero => rfl
      | succ m =>
        rw [tidR]
        have : firstS l l.length 1 = none := by
          by_cases h3 : l.length ≤ 2
          · rcases (show l.length = 0 ∨ l.length = 1 ∨ l.length = 2 by omega) with e | e | e <;> rw [e]
            · rfl
            · rw [firstS, if_neg (by omega)]
            · rw [firstS, if_neg (by omega)]
          · have := firstS_skip l (l.length - 2) 2 1 (fun j h4 h5 => hb j h4 (by omega)) (by omega)
            rw [show 2 + (l.length - 2) = l.length by omega] at this
            rw [this, firstS, if_neg (by omega)]
        rw [this]
theorem pX_erase (l : List (Int × Int)) (i j : Nat) : pX (l.eraseIdx i) j = if j < i then pX l j else pX l (j + 1) := by rw [pX_pt, pt_erase]; split <;> rfl
theorem pY_erase (l : List (Int × Int)) (i j : Nat) : pY (l.eraseIdx i) j = if j < i then pY l j else pY l (j + 1) := by rw [pY_pt, pt_erase]; split <;> rfl
theorem Wv.rise {l : List (Int × Int)} (w : Wv l) : Rise l := w.s
theorem Wv.erase {l : List (Int × Int)} (w : Wv l) {i : Nat} (h1 : 1 ≤ i) (h2 : i + 1 < l.length) : Wv (l.eraseIdx i) := by
  have hl := List.length_eraseIdx_of_lt (show i < l.length by omega)
  have hi := w.hi
  refine ⟨by omega, by omega, ?_, ?_, ?_, w.rise.erase (by omega), ?_⟩
  · rw [pX_erase, if_pos (by omega)]; exact w.x0
  · rw [pX_erase, if_neg (by omega), hl, show l.length - 1 - 1 + 1 = l.length - 1 by omega]; exact w.x1
  · intro j hj; rw [pY_erase]; split
    · exact w.h j (by omega)
    · exact w.h (j + 1) (by omega)
  · rw [pY_erase, if_pos (by omega), pY_erase, if_neg (by omega), hl, show l.length - 1 - 1 + 1 = l.length - 1 by omega]; exact w.y
theorem line_same {x0 y0 x1 y1 x2 y2 p : Rat} (h1 : x0 < x1) (h2 : x1 < x2) (h : (y1 - y0) * (x2 - x0) = (y2 - y0) * (x1 - x0)) :
    y0 + (y1 - y0) * ((p - x0) / (x1 - x0)) = y0 + (y2 - y0) * ((p - x0) / (x2 - x0)) ∧ y1 + (y2 - y1) * ((p - x1) / (x2 - x1)) = y0 + (y2 - y0) * ((p - x0) / (x2 - x0)) := by
  have n1 : x1 - x0 ≠ 0 := by grind
  have n2 : x2 - x1 ≠ 0 := by grind
  have n3 : x2 - x0 ≠ 0 := by grind
  constructor <;> grind
theorem hgt_erase {l : List (Int × Int)} (w : Wv l) {i : Nat} (h1 : 1 ≤ i) (h2 : i + 1 < l.length) (hs : strtAt l i = true) (x : Rat) : hgtW (l.eraseIdx i) x = hgtW l x := by
  have hl := List.length_eraseIdx_of_lt (show i < l.length by omega)
  have we := w.erase h1 h2
  obtain ⟨b, c, d⟩ := kW_in w x
  rw [hgtW_seg l]
  generalize kW l (place x) l.length 0 = k at *
  have hst : ((pY l i : Rat) - (pY l (i - 1) : Rat)) * ((pX l (i + 1) : Rat) - (pX l (i - 1) : Rat)) = ((pY l (i + 1) : Rat) - (pY l (i - 1) : Rat)) * ((pX l i : Rat) - (pX l (i - 1) : Rat)) := by
    unfold strtAt strt at hs
    rw [decide_eq_true_eq] at hs
    rw [← Rat.intCast_sub, ← Rat.intCast_sub, ← Rat.intCast_sub, ← Rat.intCast_sub, ← Rat.intCast_mul, ← Rat.intCast_mul]
    congr 1
  have s1 := castlt (w.s (i - 1) (by omega))
  rw [show i - 1 + 1 = i by omega] at s1
  have s2 := castlt (w.s i h2)
  obtain ⟨L1, L2⟩ := line_same (p := place x) s1 s2 hst
  rcases (show k + 1 < i ∨ k = i - 1 ∨ k = i ∨ i < k by omega) with e | e | e | e
  · rw [hgt_on we x (k := k) (by omega) (by rw [pX_erase, if_pos (by omega)]; exact c) (by rw [pX_erase, if_pos (by omega)]; exact Rat.le_of_lt d)]
    unfold segW
    rw [pX_erase, pX_erase, pY_erase, pY_erase, if_pos (by omega), if_pos (by omega), if_pos (by omega), if_pos (by omega)]
  · subst e
    rw [show i - 1 + 1 = i by omega] at d
    rw [hgt_on we x (k := i - 1) (by omega) (by rw [pX_erase, if_pos (by omega)]; exact c) (by rw [pX_erase, if_neg (by omega), show i - 1 + 1 + 1 = i + 1 by omega]; exact Rat.le_of_lt (by grind))]
    unfold segW
    rw [pX_erase, pX_erase, pY_erase, pY_erase, if_pos (by omega), if_neg (by omega), if_pos (by omega), if_neg (by omega), show i - 1 + 1 + 1 = i + 1 by omega, show i - 1 + 1 = i by omega, Rat.intCast_sub, Rat.intCast_sub]
    exact L1.symm
  · subst e
    rw [hgt_on we x (k := k - 1) (by omega) (by rw [pX_erase, if_pos (by omega)]; exact Rat.le_of_lt (by grind)) (by rw [pX_erase, if_neg (by omega), show k - 1 + 1 + 1 = k + 1 by omega]; exact Rat.le_of_lt d)]
    unfold segW
    rw [pX_erase, pX_erase, pY_erase, pY_erase, if_pos (by omega), if_neg (by omega), if_pos (by omega), if_neg (by omega), show k - 1 + 1 + 1 = k + 1 by omega, Rat.intCast_sub, Rat.intCast_sub]
    exact L2.symm
  · rw [hgt_on we x (k := k - 1) (by omega) (by rw [pX_erase, if_neg (by omega), show k - 1 + 1 = k by omega]; exact c) (by rw [pX_erase, if_neg (by omega), show k - 1 + 1 + 1 = k + 1 by omega]; exact Rat.le_of_lt d)]
    unfold segW
    rw [pX_erase, pX_erase, pY_erase, pY_erase, if_neg (by omega), if_neg (by omega), if_neg (by omega), if_neg (by omega), show k - 1 + 1 + 1 = k + 1 by omega, show k - 1 + 1 = k by omega]
theorem tidF_wv : ∀ (n i : Nat) {l : List (Int × Int)}, Wv l → 1 ≤ i → Wv (tidF n i l) ∧ (∀ x, hgtW (tidF n i l) x = hgtW l x) ∧ (∀ p, p ∈ tidF n i l → p ∈ l)
  | 0, _, l, w, _ => ⟨w, fun _ => rfl, fun _ h => h⟩
  | n + 1, i, l, w, h1 => by
    rw [tidF]
    split
    · rename_i h2
      cases hs : strtAt l i
      · rw [if_neg (by simp)]; exact tidF_wv n (i + 1) w (by omega)
      · rw [if_pos rfl]
        obtain ⟨a, b, c⟩ := tidF_wv n i (w.erase h1 h2) h1
        exact ⟨a, fun x => (b x).trans (hgt_erase w h1 h2 hs x), fun p hp => List.mem_of_mem_eraseIdx (c p hp)⟩
    · exact ⟨w, fun _ => rfl, fun _ h => h⟩
theorem tidF_none : ∀ (n i : Nat) {l : List (Int × Int)}, Rise l → 1 ≤ i → l.length ≤ n + i → (∀ j, 1 ≤ j → j < i → j + 1 < l.length → strtAt l j = false) → ∀ j, 1 ≤ j → j + 1 < (tidF n i l).length → strtAt (tidF n i l) j = false
  | 0, i, l, _, _, hn, hb, j, hj, hl => hb j hj (by rw [tidF] at hl; omega) hl
  | n + 1, i, l, hr, h1, hn, hb, j, hj, hl => by
    rw [tidF] at hl ⊢
    by_cases h2 : i + 1 < l.length
    · rw [if_pos h2] at hl ⊢
      cases hs : strtAt l i
      · rw [hs, if_neg (by simp)] at hl
        rw [if_neg (by simp)]
        refine tidF_none n (i + 1) hr (by omega) (by omega) (fun k k1 k2 k3 => ?_) j hj hl
        by_cases e : k = i
        · subst e; exact hs
        · exact hb k k1 (by omega) k3
      · rw [hs, if_pos rfl] at hl
        rw [if_pos rfl]
        have hel := List.length_eraseIdx_of_lt (show i < l.length by omega)
        refine tidF_none n i (hr.erase (by omega)) h1 (by omega) (fun k k1 k2 k3 => ?_) j hj hl
        rw [strtAt_before hr h2 k1 k2 hs]; exact hb k k1 k2 (by omega)
    · rw [if_neg h2] at hl ⊢
      exact hb j hj (by omega) hl
/-! ### means -/
/-- Twice the area. -/
def areaL : List (Int × Int) → Int
  | a :: b :: r => (b.1 - a.1) * (b.2 + a.2) + areaL (b :: r)
  | _ => 0
def meanW (l : List (Int × Int)) : Rat := Rat.divInt (areaL l) 2000
theorem areaL_append : ∀ (s : List (Int × Int)) (p : Int × Int) (t : List (Int × Int)), areaL (s ++ p :: t) = areaL (s ++ [p]) + areaL (p :: t)
  | [], p, t => by simp [areaL]
  | [a], p, t => by simp [areaL]
  | a :: b :: s, p, t => by
    have := areaL_append (b :: s) p t
    simp only [List.cons_append] at this ⊢
    rw [areaL, areaL, this, Int.add_assoc]
theorem areaL_flip : ∀ l : List (Int × Int), areaL (flipL l) = -areaL l
  | [] => rfl
  | [_] => rfl
  | a :: b :: r => by
    have := areaL_flip (b :: r)
    unfold flipL at this ⊢
    rw [List.map_cons] at this ⊢
    rw [List.map_cons, areaL, areaL, this]
    grind
theorem areaL_mir : ∀ l : List (Int × Int), areaL (mirL l) = areaL l
  | [] => rfl
  | [_] => rfl
  | a :: b :: r => by
    have := areaL_mir (b :: r)
    have e1 : mirL (b :: r) = mirL r ++ [(1000 - b.1, b.2)] := by unfold mirL; rw [List.map_cons, List.reverse_cons]
    have e2 : mirL (a :: b :: r) = mirL r ++ (1000 - b.1, b.2) :: [(1000 - a.1, a.2)] := by unfold mirL; rw [List.map_cons, List.map_cons, List.reverse_cons, List.reverse_cons, List.append_assoc]; rfl
    rw [e1] at this
    rw [e2, areaL_append, this]
    simp only [areaL]
    grind
theorem area_erase {l : List (Int × Int)} {i : Nat} (h1 : 1 ≤ i) (h2 : i + 1 < l.length) (hs : strtAt l i = true) : areaL (l.eraseIdx i) = areaL l := by
  have ea : pt l (i - 1) = l[i - 1]'(by omega) := by unfold pt; rw [List.getElem?_eq_getElem (by omega)]; rfl
  have eb : pt l i = l[i]'(by omega) := by unfold pt; rw [List.getElem?_eq_getElem (by omega)]; rfl
  have ec : pt l (i + 1) = l[i + 1]'(by omega) := by unfold pt; rw [List.getElem?_eq_getElem (by omega)]; rfl
  have d1 : l.drop (i - 1) = l[i - 1]'(by omega) :: l[i]'(by omega) :: l[i + 1]'(by omega) :: l.drop (i + 2) := by
    rw [List.drop_eq_getElem_cons (show i - 1 < l.length by omega)]
    simp only [show i - 1 + 1 = i by omega]
    rw [List.drop_eq_getElem_cons (show i < l.length by omega), List.drop_eq_getElem_cons (show i + 1 < l.length by omega)]
  have d2 : l = l.take (i - 1) ++ l[i - 1]'(by omega) :: l[i]'(by omega) :: l[i + 1]'(by omega) :: l.drop (i + 2) := by rw [← d1, List.take_append_drop]
  have d3 : l.eraseIdx i = l.take (i - 1) ++ l[i - 1]'(by omega) :: l[i + 1]'(by omega) :: l.drop (i + 2) := by
    rw [List.eraseIdx_eq_take_drop_succ, List.drop_eq_getElem_cons (show i + 1 < l.length by omega)]
    have : l.take i = l.take (i - 1) ++ [l[i - 1]'(by omega)] := by
      have := List.take_succ_eq_append_getElem (show i - 1 < l.length by omega)
      rw [show i - 1 + 1 = i by omega] at this; exact this
    rw [this, List.append_assoc]; rfl
  unfold strtAt strt at hs
  rw [decide_eq_true_eq, ea, eb, ec] at hs
  rw [d3]
  conv => rhs; rw [d2]
  rw [areaL_append, areaL_append (l.take (i - 1)) _ (l[i] :: _)]
  simp only [areaL]
  generalize l[i - 1]'(by omega) = a at *
  generalize l[i]'(by omega) = b at *
  generalize l[i + 1]'(by omega) = c at *
  grind
theorem tidF_area : ∀ (n i : Nat) (l : List (Int × Int)), 1 ≤ i → areaL (tidF n i l) = areaL l
  | 0, _, _, _ => rfl
  | n + 1, i, l, h1 => by
    rw [tidF]
    split
    · rename_i h2
      cases hs : strtAt l i
      · rw [if_neg (by simp)]; exact tidF_area n (i + 1) l (by omega)
      · rw [if_pos rfl, tidF_area n i _ h1]; exact area_erase h1 h2 hs
    · rfl
theorem areaL_take {l : List (Int × Int)} {i : Nat} (h1 : 1 ≤ i) (hi : i < l.length) : areaL (l.take (i + 1)) = areaL (l.take i) + (pX l i - pX l (i - 1)) * (pY l i + pY l (i - 1)) := by
  have e1 : l.take (i + 1) = l.take i ++ [l[i]] := List.take_succ_eq_append_getElem hi
  have e2 : l.take i = l.take (i - 1) ++ [l[i - 1]'(by omega)] := by
    have := List.take_succ_eq_append_getElem (show i - 1 < l.length by omega)
    rw [show i - 1 + 1 = i by omega] at this; exact this
  rw [e1, e2, List.append_assoc]
  show areaL (l.take (i - 1) ++ l[i - 1]'(by omega) :: [l[i]]) = _
  rw [areaL_append]
  simp only [areaL, pX, pY]
  rw [List.getElem?_eq_getElem hi, List.getElem?_eq_getElem (show i - 1 < l.length by omega)]
  simp
theorem area_bound {l : List (Int × Int)} (w : Wv l) : ∀ i, 1 ≤ i → i ≤ l.length → -(2000 * pX l (i - 1)) ≤ areaL (l.take i) ∧ areaL (l.take i) ≤ 2000 * pX l (i - 1)
  | 0, h, _ => by omega
  | 1, _, hl => by
    have : areaL (l.take 1) = 0 := by
      cases l with
      | nil => rfl
      | cons a r => rfl
    rw [this, show 1 - 1 = 0 from rfl, w.x0]; omega
  | i + 2, _, hl => by
    obtain ⟨a, b⟩ := area_bound w (i + 1) (by omega) (by omega)
    have e := areaL_take (l := l) (i := i + 1) (by omega) (by omega)
    rw [e]
    have s := w.s i (by omega)
    have y1 := w.h (i + 1) (by omega)
    have y0 := w.h i (by omega)
    rw [show i + 1 - 1 = i by omega] at a b ⊢
    rw [show i + 2 - 1 = i + 1 by omega]
    have m1 : (pX l (i + 1) - pX l i) * (pY l (i + 1) + pY l i) ≤ (pX l (i + 1) - pX l i) * 2000 := Int.mul_le_mul_of_nonneg_left (by omega) (by omega)
    have m2 : (pX l (i + 1) - pX l i) * (-2000) ≤ (pX l (i + 1) - pX l i) * (pY l (i + 1) + pY l i) := Int.mul_le_mul_of_nonneg_left (by omega) (by omega)
    omega
/-- The least and the greatest height among the first i. -/
def loF (l : List (Int × Int)) : Nat → Int
  | 0 => pY l 0
  | i + 1 => min (loF l i) (pY l i)
def hiF (l : List (Int × Int)) : Nat → Int
  | 0 => pY l 0
  | i + 1 => max (hiF l i) (pY l i)
theorem loF_le (l : List (Int × Int)) : ∀ (n i : Nat), i < n → loF l n ≤ pY l i
  | 0, i, h => by omega
  | n + 1, i, h => by
    rw [loF]
    by_cases e : i = n
    · subst e; omega
    · have := loF_le l n i (by omega); omega
theorem hiF_ge (l : List (Int × Int)) : ∀ (n i : Nat), i < n → pY l i ≤ hiF l n
  | 0, i, h => by omega
  | n + 1, i, h => by
    rw [hiF]
    by_cases e : i = n
    · subst e; omega
    · have := hiF_ge l n i (by omega); omega
theorem loF_range {l : List (Int × Int)} (w : Wv l) : ∀ n, n ≤ l.length → -1000 ≤ loF l n ∧ loF l n ≤ 1000
  | 0, _ => w.h 0 (by have := w.lo; omega)
  | n + 1, h => by
    have := loF_range w n (by omega)
    have := w.h n (by omega)
    rw [loF]; omega
theorem hiF_range {l : List (Int × Int)} (w : Wv l) : ∀ n, n ≤ l.length → -1000 ≤ hiF l n ∧ hiF l n ≤ 1000
  | 0, _ => w.h 0 (by have := w.lo; omega)
  | n + 1, h => by
    have := hiF_range w n (by omega)
    have := w.h n (by omega)
    rw [hiF]; omega
end Lum
