/-
  
-/
import Derived.Test.YtmjkenlifgmeeaaGreatDoorQzSw
import Derived.Test.YtmjkenlifgmeeaaGreatDoorQzQq
import Derived.Laws.StructEq
import Derived.Test.YtmjkenlifgmeeaaGreatDoorQzYa
set_option linter.unusedVariables false
set_option linter.unusedSimpArgs false
namespace Lum
open Go Go.RowKit Go.Shelf
open Go.Lib (decDigits itoa)
end Lum
namespace Lum
open Go Go.RowKit Go.Shelf
open Go.Lib (decDigits itoa)
def fdN (n v:Int):Fdr:=⟨n,[48],v,0,0,0⟩
theorem fds_nil (W:World):FdsAt W (.slice none 0 0) []:=⟨none,0,rfl,Nat.le_refl _,fun h => absurd rfl h⟩
theorem fdN_len {l:List Fdr} (h:l = [] ∨ (∃ n v,l = [fdN n v]) ∨ ∃ n v m u,l = [fdN n v,fdN m u]):∀ i,i < l.length → (fdv l i).fr.length ≤ 60:=by
  intro i hi
  rcases h with rfl | ⟨n,v,rfl⟩ | ⟨n,v,m,u,rfl⟩
  · simp at hi
  · match i,hi with
    | 0,_ => show List.length [48] ≤ 60;decide
  · match i,hi with
    | 0,_ => show List.length [48] ≤ 60;decide
    | 1,_ => show List.length [48] ≤ 60;decide
def FewB (p:Prop) (w:World) (e:Ending) (w':World):Prop:=∃ b,e = .returned (.bool b) ∧ (b = true → p) ∧ Below w.heap.size w w'
end Lum
namespace Go.Proofs.YtmjkenlifgmeeaaGreatDoor
open Go.RowKit Go.Shelf Lum
open Go.Lib (decDigits itoa)
attribute [local go_sem] bs_get bs_extract_end bs_extract_from bs_extract bs_append
end Go.Proofs.YtmjkenlifgmeeaaGreatDoor
namespace Lum
open Go Go.RowKit Go.Shelf
open Go.Lib (decDigits itoa)
def mvF (nu:Int) (inh:Bool) (l:List Fdr) (t to_ ti:Int) (mv:Bool):Fdr:=⟨(fadG nu inh l).su,showR (lvlQ nu inh l t),to_,t,ti,if mv = false ∨ lvlQ nu inh l t = 0 then t else (fadG nu inh l).stp⟩
theorem mvF_new {nu:Int} {inh:Bool} {l:List Fdr} {t to_ ti:Int}:mvF nu inh l t to_ ti false = ⟨(fadG nu inh l).su,showR (lvlQ nu inh l t),to_,t,ti,t⟩:=by unfold mvF;rw [if_pos (.inl rfl)]
def mvIn (t to_ ti:Int):Prop:=((0 ≤ t ∧ t ≤ 10000000) ∧ (0 ≤ ti ∧ ti ≤ 10000000)) ∧ (0 ≤ to_ ∧ to_ ≤ 65535)
instance (t to_ ti:Int):Decidable (mvIn t to_ ti):=by unfold mvIn;exact inferInstance
theorem fadG_su (nu:Int) (inh:Bool) (l:List Fdr):(fadG nu inh l).su = nu:=by
  unfold fadG
  cases h:l.find? (fun f => f.su == nu) with
  | none => cases inh <;> rfl
  | some f => have:=List.find?_some h;simpa using this
end Lum
namespace Lum
open Go Go.RowKit Go.Shelf
open Go.Lib (decDigits itoa)
def maE (fr:Txt) (tz st ti:Int) (su:List Sb) (fd:List Fdr):Int:=if glE fr tz st ti ≠ 0 then glE fr tz st ti else if tabE su ≠ 0 then tabE su else facE fd
def mainQ (fr:Txt) (tz st ti:Int) (bl:Bool) (t:Int):Rat:=if bl then 0 else glV (valR fr) tz st ti t / ((65535:Int):Rat)
def facQ (a:Rat) (su:List Sb) (fd:List Fdr) (ch t:Int) (k:Nat):Rat:=(su.take k).foldl (fun a s => a * sclQ s fd ch t) a
structure MaOk (fr : Txt) (tz st ti : Int) (su : List Sb) (fd : List Fdr) : Prop where
  gl:glE fr tz st ti = 0
  len:fr.length ≤ 60
  tab:TabOk su
  fac:FacOk fd
  lens:∀ i,i < fd.length → (fdv fd i).fr.length ≤ 60
def actP (ch:Int) (s:Sb):Bool:=s.inh && (gnG s.gs ch 0).isSome
def actL (su:List Sb) (ch:Int):List Sb:=su.filter (actP ch)
def actN (su:List Sb) (ch:Int):List Int:=(actL su ch).map (·.nu)
def onE (fr:Txt) (tz st ti:Int) (su:List Sb) (fd:List Fdr) (ch:Int):Int:=if maE fr tz st ti su fd ≠ 0 then maE fr tz st ti su fd else if ch < 1 ∨ 999 < ch then 2 else 0
end Lum
namespace Lum
open Go Go.RowKit Go.Shelf
open Go.Lib (decDigits itoa)
def encS (x:Sb × Value):List Value:=[.int .i64 x.1.nu,.int .i64 x.1.pr,.bool x.1.inh,x.2]
theorem GnsAt.one {W:World} {v:Value} {l:List Gn} (h:GnsAt W v l):v.oneCell' = true:=by obtain ⟨p,c,rfl,-⟩:=h;rfl
def freeP (n:Int) (s:Sb):Bool:=s.nu != n || !s.inh
def freeL (su:List Sb) (n:Int):List Sb:=su.filter (freeP n)
def dropP (n:Int) (s:Sb):Bool:=s.nu != n
def dropL (su:List Sb) (n:Int):List Sb:=su.filter (dropP n)
def hasI (su:List Sb) (n:Int):Bool:=su.any (fun s => s.nu == n && s.inh)
end Lum
namespace Lum
open Go Go.RowKit Go.Shelf
open Go.Lib (decDigits itoa)
def srcL (bl:Bool) (su:List Sb) (ch:Int):List (Int × Int):=(5,0) :: ((if bl then [(6,0)] else []) ++ (actN su ch).map fun n => (7,n))
def aFr (xs:List (Int × Int)) (fr:Txt):Txt:=if xs.any (·.1 == 5) then [54,53,53,51,53] else fr
def aTo (xs:List (Int × Int)) (tz:Int):Int:=if xs.any (·.1 == 5) then 65535 else tz
def aZe (xs:List (Int × Int)) (st:Int):Int:=if xs.any (·.1 == 5) then 0 else st
def aBl (xs:List (Int × Int)) (bl:Bool):Bool:=bl && !xs.any (·.1 == 6)
def aSu (xs:List (Int × Int)) (su:List Sb):List Sb:=su.filter fun s => xs.all fun x => x.1 != 7 || freeP x.2 s
def woE (k n:Int) (su:List Sb):Int:=if k = 5 ∨ k = 6 then (if n ≠ 0 then 2 else 0) else if k = 7 then (if hasI su n then 0 else 6) else 1
end Lum
