/-
  
-/
import Derived.Test.YtmjkenlifgmeeaaGreatDoorQzWc
import Derived.Test.YtmjkenlifgmeeaaGreatDoorQzWa
import Derived.Test.YtmjkenlifgmeeaaGreatDoorQzKd
import Derived.Test.YtmjkenlifgmeeaaGreatDoorQzYa
set_option linter.unusedVariables false
set_option linter.unusedSimpArgs false
namespace Lum
open Go Go.RowKit Go.Shelf
open Go.Lib (decDigits itoa)
structure Wv (l : List (Int × Int)) : Prop where
  lo:2 ≤ l.length
  hi:l.length ≤ 16
  x0:pX l 0 = 0
  x1:pX l (l.length - 1) = 1000
  h:∀ i,i < l.length → -1000 ≤ pY l i ∧ pY l i ≤ 1000
  s:∀ i,i + 1 < l.length → pX l i < pX l (i + 1)
  y:pY l 0 = pY l (l.length - 1)
theorem Wv.mono {l : List (Int × Int)} (w : Wv l) : ∀ {j i : Nat}, i ≤ j → j < l.length → pX l i ≤ pX l j
  | 0, i, h, _ => by obtain rfl : i = 0 := by omega
                     exact Int.le_refl _
  | j + 1,i,h,hj => by
    by_cases e:i = j + 1
    · subst e;exact Int.le_refl _
    · have:=w.mono (show i ≤ j by omega) (by omega)
      have:=w.s j hj
      omega
theorem Wv.range {l:List (Int × Int)} (w:Wv l) {i:Nat} (hi:i < l.length):0 ≤ pX l i ∧ pX l i ≤ 1000:=by
  have h1:=w.mono (show 0 ≤ i by omega) hi
  have h2:=w.mono (show i ≤ l.length - 1 by omega) (by have:=w.lo;omega)
  rw [w.x0] at h1;rw [w.x1] at h2
  exact ⟨h1,h2⟩
def place (x:Rat):Rat:=x - 1000 * ((x / 1000).floor:Rat)
def kW (l : List (Int × Int)) (at_ : Rat) : Nat → Nat → Nat
  | 0,k => k
  | n + 1,k => if k + 2 < l.length ∧ (pX l (k + 1):Rat) ≤ at_ then kW l at_ n (k + 1) else k
def hgtW (l:List (Int × Int)) (x:Rat):Rat :=
  let k:=kW l (place x) l.length 0
  (pY l k:Rat) + ((pY l (k + 1):Rat) - (pY l k:Rat)) * ((place x - (pX l k:Rat)) / ((pX l (k + 1) - pX l k:Int):Rat))
def segW (l:List (Int × Int)) (k:Nat) (at_:Rat):Rat:=(pY l k:Rat) + ((pY l (k + 1):Rat) - (pY l k:Rat)) * ((at_ - (pX l k:Rat)) / ((pX l (k + 1) - pX l k:Int):Rat))
def flipL (l:List (Int × Int)):List (Int × Int):=l.map fun p => (p.1,-p.2)
def mirL (l:List (Int × Int)):List (Int × Int):=(l.map fun p => (1000 - p.1,p.2)).reverse
def strt (a b c:Int × Int):Bool:=decide ((b.2 - a.2) * (c.1 - a.1) = (c.2 - a.2) * (b.1 - a.1))
def pt (l:List (Int × Int)) (i:Nat):Int × Int:=l[i]?.getD (0,0)
def strtAt (l:List (Int × Int)) (i:Nat):Bool:=strt (pt l (i - 1)) (pt l i) (pt l (i + 1))
def Rise (l:List (Int × Int)):Prop:=∀ i,i + 1 < l.length → pX l i < pX l (i + 1)
theorem Rise.lt {l : List (Int × Int)} (h : Rise l) : ∀ {j i : Nat}, i < j → j < l.length → pX l i < pX l j
  | 0,i,hij,_ => by omega
  | j + 1,i,hij,hj => by
    by_cases e:i = j
    · subst e;exact h i hj
    · have:=h.lt (show i < j by omega) (by omega)
      have:=h j hj
      omega
def tidF : Nat → Nat → List (Int × Int) → List (Int × Int)
  | 0,_,l => l
  | n + 1,i,l => if i + 1 < l.length then (if strtAt l i then tidF n i (l.eraseIdx i) else tidF n (i + 1) l) else l
def firstS (l : List (Int × Int)) : Nat → Nat → Option Nat
  | 0,_ => none
  | n + 1,i => if i + 1 < l.length then (if strtAt l i then some i else firstS l n (i + 1)) else none
def tidR : Nat → List (Int × Int) → List (Int × Int)
  | 0,l => l
  | m + 1,l => match firstS l l.length 1 with
    | none => l
    | some i => tidR m (l.eraseIdx i)
def areaL : List (Int × Int) → Int
  | a :: b :: r => (b.1 - a.1) * (b.2 + a.2) + areaL (b :: r)
  | _ => 0
def meanW (l:List (Int × Int)):Rat:=Rat.divInt (areaL l) 2000
def loF (l : List (Int × Int)) : Nat → Int
  | 0 => pY l 0
  | i + 1 => min (loF l i) (pY l i)
def hiF (l : List (Int × Int)) : Nat → Int
  | 0 => pY l 0
  | i + 1 => max (hiF l i) (pY l i)
end Lum
namespace Lum
open Go Go.RowKit Go.Shelf
def rdB (n:Int):Bool:=decide (0 ≤ n ∧ n ≤ 8000000000)
def wiB (n lo hi:Int):Bool:=decide (lo ≤ n ∧ n ≤ hi)
def ckB (E R D L:Int):Bool:=rdB E && wiB L 0 10000000 && wiB R 1 400 && wiB D (-1) 1
def ckE (E R D L:Int):Int:=if ckB E R D L then 0 else 2
def moE (E R D L t:Int):Int:=if ckB E R D L = false then 2 else if wiB t 0 10000000 = false then 2 else if t < L then 9 else 0
def shZ (E R D L t:Int):Int:=max 0 (E + D * R * (t - L))
end Lum
namespace Go.Proofs.YtmjkenlifgmeeaaGreatDoor
open Go.RowKit Go.Shelf Lum
attribute [local go_sem] bs_get bs_extract_end bs_extract_from bs_extract bs_append
end Go.Proofs.YtmjkenlifgmeeaaGreatDoor
namespace Lum
open Go Go.RowKit Go.Shelf
structure CBox (W : World) (B : Nat) (E R D L : Int) : Prop where
  a0:W.cell? ⟨B,0,none⟩ = some (.int .i64 E)
  a1:W.cell? ⟨B,1,none⟩ = some (.int .i64 R)
  a2:W.cell? ⟨B,2,none⟩ = some (.int .i64 D)
  a3:W.cell? ⟨B,3,none⟩ = some (.int .i64 L)
  f0:W.frozen? ⟨B,0,none⟩ = false
  f1:W.frozen? ⟨B,1,none⟩ = false
  f2:W.frozen? ⟨B,2,none⟩ = false
  f3:W.frozen? ⟨B,3,none⟩ = false
  lt:B < W.heap.size
theorem CBox.keep {W W':World} {B:Nat} {E R D L:Int} (h:CBox W B E R D L) (hb:Below W.heap.size W W'):CBox W' B E R D L :=
  ⟨(hb.cell (p := ⟨B, 0, none⟩) h.lt).trans h.a0, (hb.cell (p := ⟨B, 1, none⟩) h.lt).trans h.a1, (hb.cell (p := ⟨B, 2, none⟩) h.lt).trans h.a2, (hb.cell (p := ⟨B, 3, none⟩) h.lt).trans h.a3,
    (hb.frozen (p:=⟨B,0,none⟩) h.lt).trans h.f0,(hb.frozen (p:=⟨B,1,none⟩) h.lt).trans h.f1,(hb.frozen (p:=⟨B,2,none⟩) h.lt).trans h.f2,(hb.frozen (p:=⟨B,3,none⟩) h.lt).trans h.f3,Nat.lt_of_lt_of_le h.lt hb.size⟩
theorem CBox.new (W:World) (t:TypeId) (E R D L:Int):CBox (W.alloc (.cells #[.int .i64 E,.int .i64 R,.int .i64 D,.int .i64 L] t)) W.heap.size E R D L:=by
  constructor <;> simp [go_sem]
theorem CBox.alloc {W:World} {B:Nat} {E R D L:Int} (h:CBox W B E R D L) (o:Obj):CBox (W.alloc o) B E R D L:=h.keep ((Below.refl _ W).alloc (Nat.le_refl _) o)
theorem frozen_blk {W W':World} {k o:Nat} (h:W'.heap[k]? = W.heap[k]?):W'.frozen? ⟨k,o,none⟩ = W.frozen? ⟨k,o,none⟩:=by unfold World.frozen?;rw [h]
theorem cell_blk {W W':World} {k o:Nat} (h:W'.heap[k]? = W.heap[k]?):W'.cell? ⟨k,o,none⟩ = W.cell? ⟨k,o,none⟩:=by unfold World.cell?;rw [h]
theorem CBox.only {W W':World} {B C:Nat} {E R D L:Int} (h:CBox W B E R D L) (ho:Only C W W') (hne:B ≠ C):CBox W' B E R D L:=by
  have hk:=ho.blk B h.lt hne
  exact ⟨(cell_blk hk).trans h.a0,(cell_blk hk).trans h.a1,(cell_blk hk).trans h.a2,(cell_blk hk).trans h.a3,(frozen_blk hk).trans h.f0,(frozen_blk hk).trans h.f1,(frozen_blk hk).trans h.f2,(frozen_blk hk).trans h.f3,Nat.lt_of_lt_of_le h.lt ho.size⟩
def chgT (mf:Int → Int → Int × Int) (E R D L t:Int) (right:Bool):(Int × Int × Int × Int) × Int :=
  if moE E R D L t ≠ 0 then ((0,0,0,0),moE E R D L t) else if right = false then ((0,0,0,0),2) else if rdB (shZ E R D L t) = false then ((0,0,0,0),24)
  else ((shZ E R D L t,(mf R D).1,(mf R D).2,t),0)
def clkV (c:Int × Int × Int × Int):Value:=.agg #[.int .i64 c.1,.int .i64 c.2.1,.int .i64 c.2.2.1,.int .i64 c.2.2.2]
end Lum
namespace Go.Proofs.YtmjkenlifgmeeaaGreatDoor
open Go.RowKit Go.Shelf Lum
attribute [local go_sem] bs_get bs_extract_end bs_extract_from bs_extract bs_append
def Meth (M:FuncId) (z:Int) (mf:Int → Int → Int × Int):Prop :=
  ∀ (W:World) (B:Nat) (E R D L:Int),CBox W B E R D L → Calls Tryz.prog M #[.pointer (some ⟨B,0,none⟩),.int .i64 z] W fun e w' => e = .returned (.tuple #[]) ∧ CBox w' B E (mf R D).1 (mf R D).2 L ∧ Only B W w'
end Go.Proofs.YtmjkenlifgmeeaaGreatDoor
namespace Lum
open Go Go.RowKit Go.Shelf
theorem CBox.setAll {W:World} {B:Nat} {E R D L:Int} (h:CBox W B E R D L) (e r d l:Int):CBox ((((W.setCell ⟨B,0,none⟩ (.int .i64 e)).setCell ⟨B,1,none⟩ (.int .i64 r)).setCell ⟨B,2,none⟩ (.int .i64 d)).setCell ⟨B,3,none⟩ (.int .i64 l)) B e r d l:=by
  obtain ⟨a0,a1,a2,a3,f0,f1,f2,f3,lt⟩:=h
  constructor <;> simp [go_sem, *]
end Lum
namespace Go.Proofs.YtmjkenlifgmeeaaGreatDoor
open Go.RowKit Go.Shelf Lum
attribute [local go_sem] bs_get bs_extract_end bs_extract_from bs_extract bs_append
end Go.Proofs.YtmjkenlifgmeeaaGreatDoor
namespace Lum
open Go Go.RowKit Go.Shelf
open Go.Lib (decDigits itoa)
def backT (E R D L by_:Int):(Int × Int × Int × Int) × Int :=
  if ckB E R D L = false then ((0,0,0,0),2) else if rdB by_ = false then ((0,0,0,0),2) else ((max 0 (E - by_),R,D,L),0)
def whenT (E R D L tg:Int):Txt × Bool × Int :=
  if ckB E R D L = false then ([],false,2) else if rdB tg = false then ([],false,2)
  else if tg - E ≠ 0 ∧ (tg - E) * D ≤ 0 then ([],false,0)
  else (showR ((L:Rat) + Rat.divInt (max (tg - E) (-(tg - E))) R),true,0)
end Lum
namespace Go.Proofs.YtmjkenlifgmeeaaGreatDoor
open Go.RowKit Go.Shelf Lum
open Go.Lib (decDigits itoa)
attribute [local go_sem] bs_get bs_extract_end bs_extract_from bs_extract bs_append
end Go.Proofs.YtmjkenlifgmeeaaGreatDoor
namespace Lum
open Go Go.RowKit Go.Shelf
open Go.Lib (decDigits itoa)
end Lum
namespace Go.Proofs.YtmjkenlifgmeeaaGreatDoor
open Go.RowKit Go.Shelf Lum
open Go.Lib (decDigits itoa)
attribute [local go_sem] bs_get bs_extract_end bs_extract_from bs_extract bs_append
end Go.Proofs.YtmjkenlifgmeeaaGreatDoor
namespace Go.Proofs.YtmjkenlifgmeeaaGreatDoor
open Go.RowKit Go.Shelf Lum
open Go.Lib (decDigits itoa)
attribute [local go_sem] bs_get bs_extract_end bs_extract_from bs_extract bs_append
end Go.Proofs.YtmjkenlifgmeeaaGreatDoor
namespace Lum
open Go Go.RowKit Go.Shelf
open Go.Lib (decDigits itoa)
def lowB : Option Int → Int → Bool
  | some k,z => decide (z ≤ k)
  | none,_ => false
def ordG {α : Type} (err key : α → Int) : List α → Option Int → Int
  | [],_ => 0
  | x :: r,p => if err x ≠ 0 then err x else if lowB p (key x) = true then 9 else ordG err key r (some (key x))
abbrev ordF {α:Type} (err key:α → Int) (p:Option Int) (l:List α):Int:=ordG err key l p
def prevK {α:Type} (key:α → Int) (l:List α) (i:Nat):Option Int:=if i = 0 then none else (l[i - 1]?).map key
def ordE {α:Type} (err key:α → Int) (l:List α):Int:=if 16 < l.length then 5 else ordF err key none l
structure OrdOk {α : Type} (err key : α → Int) (l : List α) : Prop where
  few:l.length ≤ 16
  ok:∀ j (h:j < l.length),err (l[j]'h) = 0
  asc:List.Pairwise (fun a b => key a < key b) l
structure Efx where
  nu:Int
  at_:Int
  wv:List (Int × Int)
  pe:Int
  sp:Int
  sz:Int
structure Rnx where
  ef:Int
  cs:List Int
  ce:Int
  cr:Int
  cd:Int
  cl:Int
abbrev Sl3:=Option Addr × Nat × Nat
def encE (x:Efx × Sl3):List Value:=[.int .i64 x.1.nu,.int .i64 x.1.at_,.slice x.2.1 x.2.2.1 x.2.2.2,.int .i64 x.1.pe,.int .i64 x.1.sp,.int .i64 x.1.sz]
def encN (x:Rnx × Sl3):List Value:=[.int .i64 x.1.ef,.slice x.2.1 x.2.2.1 x.2.2.2,.int .i64 x.1.ce,.int .i64 x.1.cr,.int .i64 x.1.cd,.int .i64 x.1.cl]
def HasW (W:World) (L:List (Efx × Sl3)):Prop:=∀ x ∈ L,PtsAt W (.slice x.2.1 x.2.2.1 x.2.2.2) x.1.wv
def HasC (W:World) (L:List (Rnx × Sl3)):Prop:=∀ x ∈ L,IntsAt W (.slice x.2.1 x.2.2.1 x.2.2.2) x.1.cs ∧ x.1.cs.length ≤ x.2.2.2
theorem HasC.kept {W W':World} {L:List (Rnx × Sl3)} (h:HasC W L) (hb:Below W.heap.size W W'):HasC W' L:=fun x hx => ⟨IntsAt.below (h x hx).1 hb,(h x hx).2⟩
def efE (x:Efx):Int:=if x.nu < 1 ∨ 1048576 < x.nu ∨ x.at_ < 0 ∨ 15 ≤ x.at_ then 2 else if wvE x.wv ≠ 0 then wvE x.wv else if x.pe < 1 ∨ 10000000 < x.pe ∨ x.sp < 0 ∨ 1000 < x.sp ∨ x.sz < 0 ∨ 65535 < x.sz then 2 else 0
structure EfOk (x : Efx) : Prop where
  nu:1 ≤ x.nu ∧ x.nu ≤ 1048576
  at_:0 ≤ x.at_ ∧ x.at_ < 15
  wv:wvE x.wv = 0
  pe:1 ≤ x.pe ∧ x.pe ≤ 10000000
  sp:0 ≤ x.sp ∧ x.sp ≤ 1000
  sz:0 ≤ x.sz ∧ x.sz ≤ 65535
def chF (l : List Int) : Nat → Nat → Int
  | 0,_ => 0
  | n + 1,i => if inI l i < 1 ∨ 999 < inI l i then 2 else if (l.take i).contains (inI l i) = true then 7 else chF l n (i + 1)
def chE (l:List Int):Int:=if l.length = 0 then 12 else if 256 < l.length then 5 else chF l l.length 0
def rnE (x:Rnx):Int:=if x.ef < 1 ∨ 1048576 < x.ef then 2 else if chE x.cs ≠ 0 then chE x.cs else ckE x.ce x.cr x.cd x.cl
structure ChOk (l : List Int) : Prop where
  pos:0 < l.length
  few:l.length ≤ 256
  rng:∀ j,j < l.length → 1 ≤ inI l j ∧ inI l j ≤ 999
  nd:∀ j,j < l.length → (l.take j).contains (inI l j) = false
structure RnOk (x : Rnx) : Prop where
  ef:1 ≤ x.ef ∧ x.ef ≤ 1048576
  ch:ChOk x.cs
  ck:ckB x.ce x.cr x.cd x.cl = true
def atQ (x:Efx) (i k el:Int):Rat:=Rat.divInt (10 * el) x.pe + Rat.divInt (x.sp * i) k
def offQ (x:Efx) (i k el:Int):Rat:=hgtW x.wv (atQ x i k el) * Rat.divInt x.sz 1000
def ofB (i k el:Int):Prop:=¬ (k < 1 ∨ 256 < k ∨ i < 0 ∨ k ≤ i ∨ el < 0 ∨ 8000000000 < el)
instance (i k el:Int):Decidable (ofB i k el):=by unfold ofB;exact inferInstance
end Lum
namespace Lum
open Go Go.RowKit Go.Shelf
open Go.Lib (decDigits itoa)
def keyAt {α:Type} (key:α → Int) (l:List α) (k:Nat):Int:=((l[k]?).map key).getD 0
theorem keyAt_at {α:Type} {key:α → Int} {l:List α} {i:Nat} (h:i < l.length):keyAt key l i = key (l[i]'h):=by unfold keyAt;rw [List.getElem?_eq_getElem h];rfl
theorem OrdOk.lt {α:Type} {err key:α → Int} {l:List α} (h:OrdOk err key l):∀ j,j < l.length → ∀ k,k < j → keyAt key l k < keyAt key l j:=fun j hj k hk => by
  rw [keyAt_at hj,keyAt_at (Nat.lt_trans hk hj)]
  exact List.pairwise_iff_getElem.1 h.asc k j _ hj hk
structure Plc {α : Type} (key : α → Int) (l : List α) (n : Int) (i : Nat) (hit : Bool) : Prop where
  le:i ≤ l.length
  yes:hit = true → i < l.length ∧ keyAt key l i = n
  no:hit = false → ∀ j,j < l.length → keyAt key l j ≠ n
  bel:(1 ≤ n ∧ n ≤ 1048576) → Belongs (keyAt key l) l.length n i hit
theorem Plc.none {α:Type} {key:α → Int} {l:List α} {n:Int} {i:Nat} (h:Plc key l n i false):l.find? (fun x => key x == n) = Option.none :=
  find_no fun j hj => by rw [← keyAt_at (key:=key) hj];simpa using h.no rfl j hj
theorem Plc.ix {α:Type} {key:α → Int} {l:List α} {n:Int} {i:Nat} (h:Plc key l n i true) (hb:∀ j,j < l.length → 1 ≤ keyAt key l j ∧ keyAt key l j ≤ 1048576):ixOf (fun x => key x == n) l = (i:Int):=by
  obtain ⟨h1,h2⟩:=h.yes rfl
  have h3:=h.bel (by have:=hb i h1;omega)
  exact ixOf_at h1 (by rw [← keyAt_at (key:=key) h1];simpa using h2) (fun j hj => by rw [← keyAt_at (key:=key) (by omega)];have:=h3.bef j hj;simp;omega)
theorem Belongs.ix {α:Type} {key:α → Int} {l:List α} {n:Int} {i:Nat} (h:Belongs (keyAt key l) l.length n i true):ixOf (fun x => key x == n) l = (i:Int):=by
  obtain ⟨h1,h2⟩:=h.yes rfl
  exact ixOf_at h1 (by rw [← keyAt_at (key:=key) h1];simpa using h2) (fun j hj => by rw [← keyAt_at (key:=key) (by omega)];have:=h.bef j hj;simp;omega)
theorem Belongs.miss {α:Type} {key:α → Int} {l:List α} {n:Int} {i:Nat} (h:Belongs (keyAt key l) l.length n i false):∀ j,j < l.length → keyAt key l j ≠ n:=fun j hj => by
  by_cases g:j < i
  · have:=h.bef j g;omega
  · have:=h.no rfl j (by omega) hj;omega
def EfsAt (W:World) (v:Value) (l:List Efx):Prop:=∃ (L:List (Efx × Sl3)) (p:Option Addr) (c:Nat),v = .slice p L.length c ∧ L.map (·.1) = l ∧ RowX encE 6 W p L ∧ HasW W L
def RunsAt (W:World) (v:Value) (l:List Rnx):Prop:=∃ (L:List (Rnx × Sl3)) (p:Option Addr) (c:Nat),v = .slice p L.length c ∧ L.map (·.1) = l ∧ RowX encN 6 W p L ∧ HasC W L
theorem HasW.kept {W W':World} {L:List (Efx × Sl3)} (h:HasW W L) (hb:Below W.heap.size W W'):HasW W' L:=fun x hx => PtsAt.below (h x hx) hb
theorem EfsAt.kept {W W':World} {v:Value} {l:List Efx} (h:EfsAt W v l) (hb:Below W.heap.size W W'):EfsAt W' v l:=by
  obtain ⟨L,p,c,h1,h2,h3,h4⟩:=h
  exact ⟨L,p,c,h1,h2,h3.kept hb,h4.kept hb⟩
theorem RunsAt.kept {W W':World} {v:Value} {l:List Rnx} (h:RunsAt W v l) (hb:Below W.heap.size W W'):RunsAt W' v l:=by
  obtain ⟨L,p,c,h1,h2,h3,h4⟩:=h
  exact ⟨L,p,c,h1,h2,h3.kept hb,h4.kept hb⟩
abbrev efsE (l:List Efx):Int:=ordE efE (·.nu) l
abbrev rnsE (l:List Rnx):Int:=ordE rnE (·.ef) l
def memI (cs:List Int) (ch:Int):Int:=ixOf (fun c => c == ch) cs
def toldQ (L:List Efx) (x:Rnx) (t ch a:Int):Rat :=
  match L.find? (fun y => y.nu == x.ef) with
  | some y => if memI x.cs ch < 0 ∨ ¬ y.at_ = a then 0 else offQ y (memI x.cs ch) x.cs.length (shZ x.ce x.cr x.cd x.cl t)
  | Option.none => 0
def atF (t : Int) : List Rnx → Int
  | [] => 0
  | x :: r => if ¬ moE x.ce x.cr x.cd x.cl t = 0 then moE x.ce x.cr x.cd x.cl t else atF t r
def sumQ (L:List Efx) (R:List Rnx) (t ch a:Int):Rat:=R.foldl (fun s x => s + toldQ L x t ch a) 0
def paE (ch a:Int):Int:=if ch < 1 ∨ 999 < ch ∨ a < 0 ∨ 15 ≤ a then 2 else 0
theorem paE_out {ch a:Int} (h:ch < 1 ∨ 999 < ch ∨ a < 0 ∨ 15 ≤ a):paE ch a = 2:=by unfold paE;rw [if_pos h]
theorem paE_in {ch a:Int} (h:¬ (ch < 1 ∨ 999 < ch ∨ a < 0 ∨ 15 ≤ a)):paE ch a = 0:=by unfold paE;rw [if_neg h]
theorem paE_zero {ch a:Int} (h:paE ch a = 0):(1 ≤ ch ∧ ch ≤ 999) ∧ 0 ≤ a ∧ a < 15:=by
  by_cases h1:ch < 1 ∨ 999 < ch ∨ a < 0 ∨ 15 ≤ a
  · rw [paE_out h1] at h;cases h
  · omega
def boE (L:List Efx) (R:List Rnx):Int:=if efsE L ≠ 0 then efsE L else rnsE R
def pbE (L:List Efx) (R:List Rnx) (ch a:Int):Int:=if boE L R ≠ 0 then boE L R else paE ch a
def ofC (i k el:Int):Prop:=(1 ≤ k ∧ k ≤ 256) ∧ (0 ≤ i ∧ i < k) ∧ (0 ≤ el ∧ el ≤ 20000000000)
end Lum
namespace Lum
open Go Go.RowKit Go.Shelf
open Go.Lib (decDigits itoa)
def ltP (p q:Int × Int):Bool:=decide (p.1 < q.1 ∨ p.1 = q.1 ∧ p.2 < q.2)
theorem ltP_iff {p q:Int × Int}:ltP p q = true ↔ p.1 < q.1 ∨ p.1 = q.1 ∧ p.2 < q.2:=by unfold ltP;rw [decide_eq_true_eq]
theorem ltP_false {p q:Int × Int}:ltP p q = false ↔ q.1 < p.1 ∨ p.1 = q.1 ∧ q.2 ≤ p.2:=by unfold ltP;rw [decide_eq_false_iff_not];omega
theorem ltP_trans {p q r:Int × Int} (h:ltP p q = true) (g:ltP q r = true):ltP p r = true:=by rw [ltP_iff] at *;omega
theorem ltP_irr (p:Int × Int):ltP p p = false:=by rw [ltP_false];omega
theorem ltP_ne {p q:Int × Int} (h:ltP p q = false) (g:p ≠ q):ltP q p = true:=by
  rw [ltP_false] at h;rw [ltP_iff]
  have:¬ (p.1 = q.1 ∧ p.2 = q.2):=fun e => g (Prod.ext e.1 e.2)
  omega
def AscP (l:List (Int × Int)):Prop:=List.Pairwise (fun a b => ltP a b = true) l
def putP : List (Int × Int) → Int × Int → List (Int × Int)
  | [],p => [p]
  | x :: r,p => if ltP x p = true then x :: putP r p else if x = p then x :: r else p :: x :: r
def putsP (l:List (Int × Int)):List (Int × Int):=l.foldl putP []
def ddK {α : Type} [DecidableEq α] (l : List α) : Nat → List α
  | 0 => []
  | j + 1 => if j ≠ 0 ∧ l[j]? = l[j - 1]? then ddK l j else ddK l j ++ (l[j]?).toList
def movedE (L:List Efx) (x:Rnx):List (Int × Int):=match L.find? (fun y => y.nu == x.ef) with
  | some y => x.cs.map fun c => (c,y.at_)
  | Option.none => []
def movedL (L:List Efx) (R:List Rnx):List (Int × Int):=R.flatMap (movedE L)
def parL (L:List Efx) (R:List Rnx):List (Int × Int):=putsP (movedL L R)
def ownQ (L:List Efx) (R:List Rnx) (n t ch a:Int):Rat:=match R.find? (fun x => x.ef == n) with
  | some x => toldQ L x t ch a
  | Option.none => 0
end Lum
