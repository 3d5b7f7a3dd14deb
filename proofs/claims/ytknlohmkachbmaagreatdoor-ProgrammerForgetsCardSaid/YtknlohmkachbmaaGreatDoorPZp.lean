import Derived.Test.YtknlohmkachbmaaGreatDoorPYb
set_option linter.unusedVariables false
set_option linter.unusedSimpArgs false
namespace Lum
open Go Go.RowKit Go.Shelf
open Go.Lib (decDigits itoa)
def ltP (p q:Int × Int):Bool:=decide (p.1 < q.1 ∨ p.1 = q.1 ∧ p.2 < q.2)
theorem ltP_iff {p q:Int × Int}:ltP p q = true ↔ p.1 < q.1 ∨ p.1 = q.1 ∧ p.2 < q.2:=by unfold ltP;rw [decide_eq_true_eq]
theorem ltP_false {p q:Int × Int}:ltP p q = false ↔ q.1 < p.1 ∨ p.1 = q.1 ∧ q.2 ≤ p.2:=by unfold ltP;rw [decide_eq_false_iff_not];omega
theorem ltP_trans {p q r:Int × Int} (h:ltP p q = true) (g:ltP q r = true):ltP p r = true:=by rw [ltP_iff] at *;omega
theorem ltP_irr (p:Int × Int):ltP p p = false:=by rw [ltP_false];omega
theorem ltP_ne {p q:Int × Int} (h:ltP p q = false) (g:p ≠ q):ltP q p = true:=by
  rw [ltP_false] at h;rw [ltP_iff]
  have:¬ (p.1 = q.1 ∧ p.2 = q.2):=fun e => g (Prod.ext e.1 e.2)
  omega
def AscP (l:List (Int × Int)):Prop:=List.Pairwise (fun a b => ltP a b = true) l
def putP : List (Int × Int) → Int × Int → List (Int × Int)
  | [],p => [p]
  | x :: r,p => if ltP x p = true then x :: putP r p else if x = p then x :: r else p :: x :: r
def putsP (l:List (Int × Int)):List (Int × Int):=l.foldl putP []
def ddK {α : Type} [DecidableEq α] (l : List α) : Nat → List α
  | 0 => []
  | j + 1 => if j ≠ 0 ∧ l[j]? = l[j - 1]? then ddK l j else ddK l j ++ (l[j]?).toList
def movedE (L:List Efx) (x:Rnx):List (Int × Int):=match L.find? (fun y => y.nu == x.ef) with
  | some y => x.cs.map fun c => (c,y.at_)
  | Option.none => []
def movedL (L:List Efx) (R:List Rnx):List (Int × Int):=R.flatMap (movedE L)
def parL (L:List Efx) (R:List Rnx):List (Int × Int):=putsP (movedL L R)
def ownQ (L:List Efx) (R:List Rnx) (n t ch a:Int):Rat:=match R.find? (fun x => x.ef == n) with
  | some x => toldQ L x t ch a
  | Option.none => 0
end Lum
