/- A part of the proof of EffectAdds: contracts of functions, and plain facts. -/
import Derived.Test.YtbeojahilbglcaaGreatDoorQdWc
import Derived.Test.YtbeojahilbglcaaGreatDoorQdWa
set_option linter.unusedVariables false
set_option linter.unusedSimpArgs false
namespace Lum
open Go Go.RowKit Go.Shelf
open Go.Lib (decDigits itoa)
theorem scanW_zero {l : List (Int × Int)} : ∀ {n i : Nat}, scanW l n i = 0 → ∀ j, i ≤ j → j < i + n → (-1000 ≤ pY l j ∧ pY l j ≤ 1000) ∧ (0 < j → pX l (j - 1) < pX l j)
  | 0,i,_,j,h1,h2 => by omega
  | n + 1,i,h,j,h1,h2 => by
    rw [scanW] at h
    split at h
    · cases h
    · rename_i g1
      split at h
      · cases h
      · rename_i g2
        by_cases e:j = i
        · subst e;exact ⟨by omega,fun h0 => by omega⟩
        · exact scanW_zero h j (by omega) (by omega)
structure Wv (l : List (Int × Int)) : Prop where
  lo:2 ≤ l.length
  hi:l.length ≤ 16
  x0:pX l 0 = 0
  x1:pX l (l.length - 1) = 1000
  h:∀ i,i < l.length → -1000 ≤ pY l i ∧ pY l i ≤ 1000
  s:∀ i,i + 1 < l.length → pX l i < pX l (i + 1)
  y:pY l 0 = pY l (l.length - 1)
theorem wvE_zero {l:List (Int × Int)} (h:wvE l = 0):Wv l:=by
  unfold wvE at h
  by_cases h1:l.length < 2 ∨ 16 < l.length
  · rw [if_pos h1] at h;cases h
  rw [if_neg h1] at h
  by_cases h2:pX l 0 ≠ 0 ∨ pX l (l.length - 1) ≠ 1000
  · rw [if_pos h2] at h;cases h
  rw [if_neg h2] at h
  by_cases h3:scanW l l.length 0 ≠ 0
  · rw [if_pos h3] at h;exact absurd h h3
  rw [if_neg h3] at h
  by_cases h4:pY l 0 ≠ pY l (l.length - 1)
  · rw [if_pos h4] at h;cases h
  have hs:=scanW_zero (Decidable.not_not.1 h3)
  exact ⟨by omega,by omega,by omega,by omega,fun i hi => (hs i (by omega) (by omega)).1,fun i hi => by simpa using (hs (i + 1) (by omega) (by omega)).2 (by omega),Decidable.not_not.1 h4⟩
theorem Wv.mono {l : List (Int × Int)} (w : Wv l) : ∀ {j i : Nat}, i ≤ j → j < l.length → pX l i ≤ pX l j
  | 0, i, h, _ => by obtain rfl : i = 0 := by omega
                     exact Int.le_refl _
  | j + 1,i,h,hj => by
    by_cases e:i = j + 1
    · subst e;exact Int.le_refl _
    · have:=w.mono (show i ≤ j by omega) (by omega)
      have:=w.s j hj
      omega
theorem Wv.range {l:List (Int × Int)} (w:Wv l) {i:Nat} (hi:i < l.length):0 ≤ pX l i ∧ pX l i ≤ 1000:=by
  have h1:=w.mono (show 0 ≤ i by omega) hi
  have h2:=w.mono (show i ≤ l.length - 1 by omega) (by have:=w.lo;omega)
  rw [w.x0] at h1;rw [w.x1] at h2
  exact ⟨h1,h2⟩
def place (x:Rat):Rat:=x - 1000 * ((x / 1000).floor:Rat)
theorem place_range (x:Rat):0 ≤ place x ∧ place x < 1000:=by
  have h1:=Rat.floor_le (x / 1000)
  have h2:=Rat.lt_floor_add_one (x / 1000)
  rw [Rat.intCast_add] at h2
  unfold place
  constructor <;> grind
def kW (l : List (Int × Int)) (at_ : Rat) : Nat → Nat → Nat
  | 0,k => k
  | n + 1,k => if k + 2 < l.length ∧ (pX l (k + 1):Rat) ≤ at_ then kW l at_ n (k + 1) else k
theorem kW_spec (l : List (Int × Int)) (at_ : Rat) : ∀ (n k : Nat), l.length ≤ k + n + 2 → k + 1 < l.length → (pX l k : Rat) ≤ at_ →
    k ≤ kW l at_ n k ∧ kW l at_ n k + 1 < l.length ∧ (pX l (kW l at_ n k):Rat) ≤ at_ ∧ (kW l at_ n k + 2 < l.length → at_ < (pX l (kW l at_ n k + 1):Rat))
  | 0,k,h1,h2,h3 => by
    rw [kW];exact ⟨Nat.le_refl _,h2,h3,fun h => by omega⟩
  | n + 1,k,h1,h2,h3 => by
    rw [kW]
    by_cases h:k + 2 < l.length ∧ (pX l (k + 1):Rat) ≤ at_
    · rw [if_pos h]
      obtain ⟨a,b,c,d⟩:=kW_spec l at_ n (k + 1) (by omega) (by omega) h.2
      exact ⟨by omega,b,c,d⟩
    · rw [if_neg h]
      exact ⟨Nat.le_refl _,h2,h3,fun hh => Rat.not_le.1 fun hx => h ⟨hh,hx⟩⟩
def hgtW (l:List (Int × Int)) (x:Rat):Rat :=
  let k:=kW l (place x) l.length 0
  (pY l k:Rat) + ((pY l (k + 1):Rat) - (pY l k:Rat)) * ((place x - (pX l k:Rat)) / ((pX l (k + 1) - pX l k:Int):Rat))
def segW (l:List (Int × Int)) (k:Nat) (at_:Rat):Rat:=(pY l k:Rat) + ((pY l (k + 1):Rat) - (pY l k:Rat)) * ((at_ - (pX l k:Rat)) / ((pX l (k + 1) - pX l k:Int):Rat))
theorem hgtW_seg (l:List (Int × Int)) (x:Rat):hgtW l x = segW l (kW l (place x) l.length 0) (place x):=rfl
theorem castlt {a b:Int} (h:a < b):(a:Rat) < (b:Rat):=Rat.intCast_lt_intCast.2 h
theorem castle {a b:Int} (h:a ≤ b):(a:Rat) ≤ (b:Rat):=Rat.intCast_le_intCast.2 h
theorem segW_end {l:List (Int × Int)} (w:Wv l) {k:Nat} (hk:k + 1 < l.length):segW l k (pX l (k + 1)) = pY l (k + 1):=by
  unfold segW
  have h:=castlt (w.s k hk)
  rw [Rat.intCast_sub]
  have h2:(pX l (k + 1):Rat) - (pX l k:Rat) ≠ 0:=by grind
  rw [show ((pX l (k + 1):Rat) - (pX l k:Rat)) / ((pX l (k + 1):Rat) - (pX l k:Rat)) = 1 by grind]
  grind
theorem segW_start (l:List (Int × Int)) (k:Nat):segW l k (pX l k) = pY l k:=by
  unfold segW
  rw [Rat.sub_self]
  grind
theorem kW_in {l:List (Int × Int)} (w:Wv l) (x:Rat):kW l (place x) l.length 0 + 1 < l.length ∧ (pX l (kW l (place x) l.length 0):Rat) ≤ place x ∧ place x < (pX l (kW l (place x) l.length 0 + 1):Rat):=by
  obtain ⟨r0,r1⟩:=place_range x
  have h2:=w.lo
  obtain ⟨_,b,c,d⟩:=kW_spec l (place x) l.length 0 (by omega) (by omega) (by rw [w.x0];exact r0)
  refine ⟨b,c,?_⟩
  by_cases e:kW l (place x) l.length 0 + 2 < l.length
  · exact d e
  · rw [show kW l (place x) l.length 0 + 1 = l.length - 1 by omega,w.x1];exact r1
theorem hgt_on {l:List (Int × Int)} (w:Wv l) (x:Rat) {k:Nat} (hk:k + 1 < l.length) (h1:(pX l k:Rat) ≤ place x) (h2:place x ≤ (pX l (k + 1):Rat)):hgtW l x = segW l k (place x):=by
  obtain ⟨b,c,d⟩:=kW_in w x
  rw [hgtW_seg]
  generalize kW l (place x) l.length 0 = j at *
  rcases (show j = k ∨ j < k ∨ k < j by omega) with e | e | e
  · subst e;rfl
  · have:=castle (w.mono (show j + 1 ≤ k by omega) (by omega))
    exact absurd d (by grind)
  · have m1:=castle (w.mono (show k + 1 ≤ j by omega) (by omega))
    have e1:place x = (pX l (k + 1):Rat):=by grind
    have e2:j = k + 1:=by
      rcases (show j = k + 1 ∨ k + 2 ≤ j by omega) with h | h
      · exact h
      · have s1:=castlt (w.s (k + 1) (by omega))
        have s2:=castle (w.mono (show k + 1 + 1 ≤ j by omega) (by omega))
        grind
    subst e2
    rw [e1,segW_start,segW_end w hk]
def flipL (l:List (Int × Int)):List (Int × Int):=l.map fun p => (p.1,-p.2)
def mirL (l:List (Int × Int)):List (Int × Int):=(l.map fun p => (1000 - p.1,p.2)).reverse
def strt (a b c:Int × Int):Bool:=decide ((b.2 - a.2) * (c.1 - a.1) = (c.2 - a.2) * (b.1 - a.1))
def pt (l:List (Int × Int)) (i:Nat):Int × Int:=l[i]?.getD (0,0)
def strtAt (l:List (Int × Int)) (i:Nat):Bool:=strt (pt l (i - 1)) (pt l i) (pt l (i + 1))
def Rise (l:List (Int × Int)):Prop:=∀ i,i + 1 < l.length → pX l i < pX l (i + 1)
theorem Rise.lt {l : List (Int × Int)} (h : Rise l) : ∀ {j i : Nat}, i < j → j < l.length → pX l i < pX l j
  | 0,i,hij,_ => by omega
  | j + 1,i,hij,hj => by
    by_cases e:i = j
    · subst e;exact h i hj
    · have:=h.lt (show i < j by omega) (by omega)
      have:=h j hj
      omega
def tidF : Nat → Nat → List (Int × Int) → List (Int × Int)
  | 0,_,l => l
  | n + 1,i,l => if i + 1 < l.length then (if strtAt l i then tidF n i (l.eraseIdx i) else tidF n (i + 1) l) else l
def firstS (l : List (Int × Int)) : Nat → Nat → Option Nat
  | 0,_ => none
  | n + 1,i => if i + 1 < l.length then (if strtAt l i then some i else firstS l n (i + 1)) else none
def tidR : Nat → List (Int × Int) → List (Int × Int)
  | 0,l => l
  | m + 1,l => match firstS l l.length 1 with
    | none => l
    | some i => tidR m (l.eraseIdx i)
def areaL : List (Int × Int) → Int
  | a :: b :: r => (b.1 - a.1) * (b.2 + a.2) + areaL (b :: r)
  | _ => 0
def meanW (l:List (Int × Int)):Rat:=Rat.divInt (areaL l) 2000
def loF (l : List (Int × Int)) : Nat → Int
  | 0 => pY l 0
  | i + 1 => min (loF l i) (pY l i)
def hiF (l : List (Int × Int)) : Nat → Int
  | 0 => pY l 0
  | i + 1 => max (hiF l i) (pY l i)
end Lum
