import Derived.Test.YtknlohmkachbmaaGreatDoorPWc
import Derived.Test.YtknlohmkachbmaaGreatDoorPWa
set_option linter.unusedVariables false
set_option linter.unusedSimpArgs false
namespace Lum
open Go Go.RowKit Go.Shelf
open Go.Lib (decDigits itoa)
structure Wv (l : List (Int × Int)) : Prop where
  lo:2 ≤ l.length
  hi:l.length ≤ 16
  x0:pX l 0 = 0
  x1:pX l (l.length - 1) = 1000
  h:∀ i,i < l.length → -1000 ≤ pY l i ∧ pY l i ≤ 1000
  s:∀ i,i + 1 < l.length → pX l i < pX l (i + 1)
  y:pY l 0 = pY l (l.length - 1)
theorem Wv.mono {l : List (Int × Int)} (w : Wv l) : ∀ {j i : Nat}, i ≤ j → j < l.length → pX l i ≤ pX l j
  | 0, i, h, _ => by obtain rfl : i = 0 := by omega
                     exact Int.le_refl _
  | j + 1,i,h,hj => by
    by_cases e:i = j + 1
    · subst e;exact Int.le_refl _
    · have:=w.mono (show i ≤ j by omega) (by omega)
      have:=w.s j hj
      omega
theorem Wv.range {l:List (Int × Int)} (w:Wv l) {i:Nat} (hi:i < l.length):0 ≤ pX l i ∧ pX l i ≤ 1000:=by
  have h1:=w.mono (show 0 ≤ i by omega) hi
  have h2:=w.mono (show i ≤ l.length - 1 by omega) (by have:=w.lo;omega)
  rw [w.x0] at h1;rw [w.x1] at h2
  exact ⟨h1,h2⟩
def place (x:Rat):Rat:=x - 1000 * ((x / 1000).floor:Rat)
def kW (l : List (Int × Int)) (at_ : Rat) : Nat → Nat → Nat
  | 0,k => k
  | n + 1,k => if k + 2 < l.length ∧ (pX l (k + 1):Rat) ≤ at_ then kW l at_ n (k + 1) else k
def hgtW (l:List (Int × Int)) (x:Rat):Rat :=
  let k:=kW l (place x) l.length 0
  (pY l k:Rat) + ((pY l (k + 1):Rat) - (pY l k:Rat)) * ((place x - (pX l k:Rat)) / ((pX l (k + 1) - pX l k:Int):Rat))
def segW (l:List (Int × Int)) (k:Nat) (at_:Rat):Rat:=(pY l k:Rat) + ((pY l (k + 1):Rat) - (pY l k:Rat)) * ((at_ - (pX l k:Rat)) / ((pX l (k + 1) - pX l k:Int):Rat))
def flipL (l:List (Int × Int)):List (Int × Int):=l.map fun p => (p.1,-p.2)
def mirL (l:List (Int × Int)):List (Int × Int):=(l.map fun p => (1000 - p.1,p.2)).reverse
def strt (a b c:Int × Int):Bool:=decide ((b.2 - a.2) * (c.1 - a.1) = (c.2 - a.2) * (b.1 - a.1))
def pt (l:List (Int × Int)) (i:Nat):Int × Int:=l[i]?.getD (0,0)
def strtAt (l:List (Int × Int)) (i:Nat):Bool:=strt (pt l (i - 1)) (pt l i) (pt l (i + 1))
def Rise (l:List (Int × Int)):Prop:=∀ i,i + 1 < l.length → pX l i < pX l (i + 1)
theorem Rise.lt {l : List (Int × Int)} (h : Rise l) : ∀ {j i : Nat}, i < j → j < l.length → pX l i < pX l j
  | 0,i,hij,_ => by omega
  | j + 1,i,hij,hj => by
    by_cases e:i = j
    · subst e;exact h i hj
    · have:=h.lt (show i < j by omega) (by omega)
      have:=h j hj
      omega
def tidF : Nat → Nat → List (Int × Int) → List (Int × Int)
  | 0,_,l => l
  | n + 1,i,l => if i + 1 < l.length then (if strtAt l i then tidF n i (l.eraseIdx i) else tidF n (i + 1) l) else l
def firstS (l : List (Int × Int)) : Nat → Nat → Option Nat
  | 0,_ => none
  | n + 1,i => if i + 1 < l.length then (if strtAt l i then some i else firstS l n (i + 1)) else none
def tidR : Nat → List (Int × Int) → List (Int × Int)
  | 0,l => l
  | m + 1,l => match firstS l l.length 1 with
    | none => l
    | some i => tidR m (l.eraseIdx i)
def areaL : List (Int × Int) → Int
  | a :: b :: r => (b.1 - a.1) * (b.2 + a.2) + areaL (b :: r)
  | _ => 0
def meanW (l:List (Int × Int)):Rat:=Rat.divInt (areaL l) 2000
def loF (l : List (Int × Int)) : Nat → Int
  | 0 => pY l 0
  | i + 1 => min (loF l i) (pY l i)
def hiF (l : List (Int × Int)) : Nat → Int
  | 0 => pY l 0
  | i + 1 => max (hiF l i) (pY l i)
end Lum
