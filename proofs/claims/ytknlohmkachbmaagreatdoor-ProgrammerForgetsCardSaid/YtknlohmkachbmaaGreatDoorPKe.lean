import Derived.Test.YtknlohmkachbmaaGreatDoorPKd
set_option linter.unusedVariables false
set_option linter.unusedSimpArgs false
namespace Lum
open Go Go.RowKit Go.Shelf
def rdB (n:Int):Bool:=decide (0 ≤ n ∧ n ≤ 8000000000)
def wiB (n lo hi:Int):Bool:=decide (lo ≤ n ∧ n ≤ hi)
def ckB (E R D L:Int):Bool:=rdB E && wiB L 0 10000000 && wiB R 1 400 && wiB D (-1) 1
def ckE (E R D L:Int):Int:=if ckB E R D L then 0 else 2
def moE (E R D L t:Int):Int:=if ckB E R D L = false then 2 else if wiB t 0 10000000 = false then 2 else if t < L then 9 else 0
def shZ (E R D L t:Int):Int:=max 0 (E + D * R * (t - L))
end Lum
namespace Go.Proofs.YtknlohmkachbmaaGreatDoor
open Go.RowKit Go.Shelf Lum
attribute [local go_sem] bs_get bs_extract_end bs_extract_from bs_extract bs_append
end Go.Proofs.YtknlohmkachbmaaGreatDoor
namespace Lum
open Go Go.RowKit Go.Shelf
structure CBox (W : World) (B : Nat) (E R D L : Int) : Prop where
  a0:W.cell? ⟨B,0,none⟩ = some (.int .i64 E)
  a1:W.cell? ⟨B,1,none⟩ = some (.int .i64 R)
  a2:W.cell? ⟨B,2,none⟩ = some (.int .i64 D)
  a3:W.cell? ⟨B,3,none⟩ = some (.int .i64 L)
  f0:W.frozen? ⟨B,0,none⟩ = false
  f1:W.frozen? ⟨B,1,none⟩ = false
  f2:W.frozen? ⟨B,2,none⟩ = false
  f3:W.frozen? ⟨B,3,none⟩ = false
  lt:B < W.heap.size
theorem CBox.keep {W W':World} {B:Nat} {E R D L:Int} (h:CBox W B E R D L) (hb:Below W.heap.size W W'):CBox W' B E R D L :=
  ⟨(hb.cell (p := ⟨B, 0, none⟩) h.lt).trans h.a0, (hb.cell (p := ⟨B, 1, none⟩) h.lt).trans h.a1, (hb.cell (p := ⟨B, 2, none⟩) h.lt).trans h.a2, (hb.cell (p := ⟨B, 3, none⟩) h.lt).trans h.a3,
    (hb.frozen (p:=⟨B,0,none⟩) h.lt).trans h.f0,(hb.frozen (p:=⟨B,1,none⟩) h.lt).trans h.f1,(hb.frozen (p:=⟨B,2,none⟩) h.lt).trans h.f2,(hb.frozen (p:=⟨B,3,none⟩) h.lt).trans h.f3,Nat.lt_of_lt_of_le h.lt hb.size⟩
theorem CBox.new (W:World) (t:TypeId) (E R D L:Int):CBox (W.alloc (.cells #[.int .i64 E,.int .i64 R,.int .i64 D,.int .i64 L] t)) W.heap.size E R D L:=by
  constructor <;> simp [go_sem]
theorem CBox.alloc {W:World} {B:Nat} {E R D L:Int} (h:CBox W B E R D L) (o:Obj):CBox (W.alloc o) B E R D L:=h.keep ((Below.refl _ W).alloc (Nat.le_refl _) o)
theorem frozen_blk {W W':World} {k o:Nat} (h:W'.heap[k]? = W.heap[k]?):W'.frozen? ⟨k,o,none⟩ = W.frozen? ⟨k,o,none⟩:=by unfold World.frozen?;rw [h]
theorem cell_blk {W W':World} {k o:Nat} (h:W'.heap[k]? = W.heap[k]?):W'.cell? ⟨k,o,none⟩ = W.cell? ⟨k,o,none⟩:=by unfold World.cell?;rw [h]
theorem CBox.only {W W':World} {B C:Nat} {E R D L:Int} (h:CBox W B E R D L) (ho:Only C W W') (hne:B ≠ C):CBox W' B E R D L:=by
  have hk:=ho.blk B h.lt hne
  exact ⟨(cell_blk hk).trans h.a0,(cell_blk hk).trans h.a1,(cell_blk hk).trans h.a2,(cell_blk hk).trans h.a3,(frozen_blk hk).trans h.f0,(frozen_blk hk).trans h.f1,(frozen_blk hk).trans h.f2,(frozen_blk hk).trans h.f3,Nat.lt_of_lt_of_le h.lt ho.size⟩
def chgT (mf:Int → Int → Int × Int) (E R D L t:Int) (right:Bool):(Int × Int × Int × Int) × Int :=
  if moE E R D L t ≠ 0 then ((0,0,0,0),moE E R D L t) else if right = false then ((0,0,0,0),2) else if rdB (shZ E R D L t) = false then ((0,0,0,0),24)
  else ((shZ E R D L t,(mf R D).1,(mf R D).2,t),0)
def clkV (c:Int × Int × Int × Int):Value:=.agg #[.int .i64 c.1,.int .i64 c.2.1,.int .i64 c.2.2.1,.int .i64 c.2.2.2]
end Lum
namespace Go.Proofs.YtknlohmkachbmaaGreatDoor
open Go.RowKit Go.Shelf Lum
attribute [local go_sem] bs_get bs_extract_end bs_extract_from bs_extract bs_append
def Meth (M:FuncId) (z:Int) (mf:Int → Int → Int × Int):Prop :=
  ∀ (W:World) (B:Nat) (E R D L:Int),CBox W B E R D L → Calls Tryz.prog M #[.pointer (some ⟨B,0,none⟩),.int .i64 z] W fun e w' => e = .returned (.tuple #[]) ∧ CBox w' B E (mf R D).1 (mf R D).2 L ∧ Only B W w'
end Go.Proofs.YtknlohmkachbmaaGreatDoor
namespace Lum
open Go Go.RowKit Go.Shelf
theorem CBox.setAll {W:World} {B:Nat} {E R D L:Int} (h:CBox W B E R D L) (e r d l:Int):CBox ((((W.setCell ⟨B,0,none⟩ (.int .i64 e)).setCell ⟨B,1,none⟩ (.int .i64 r)).setCell ⟨B,2,none⟩ (.int .i64 d)).setCell ⟨B,3,none⟩ (.int .i64 l)) B e r d l:=by
  obtain ⟨a0,a1,a2,a3,f0,f1,f2,f3,lt⟩:=h
  constructor <;> simp [go_sem, *]
end Lum
namespace Go.Proofs.YtknlohmkachbmaaGreatDoor
open Go.RowKit Go.Shelf Lum
attribute [local go_sem] bs_get bs_extract_end bs_extract_from bs_extract bs_append
end Go.Proofs.YtknlohmkachbmaaGreatDoor
namespace Lum
open Go Go.RowKit Go.Shelf
open Go.Lib (decDigits itoa)
def backT (E R D L by_:Int):(Int × Int × Int × Int) × Int :=
  if ckB E R D L = false then ((0,0,0,0),2) else if rdB by_ = false then ((0,0,0,0),2) else ((max 0 (E - by_),R,D,L),0)
def whenT (E R D L tg:Int):Txt × Bool × Int :=
  if ckB E R D L = false then ([],false,2) else if rdB tg = false then ([],false,2)
  else if tg - E ≠ 0 ∧ (tg - E) * D ≤ 0 then ([],false,0)
  else (showR ((L:Rat) + Rat.divInt (max (tg - E) (-(tg - E))) R),true,0)
end Lum
namespace Go.Proofs.YtknlohmkachbmaaGreatDoor
open Go.RowKit Go.Shelf Lum
open Go.Lib (decDigits itoa)
attribute [local go_sem] bs_get bs_extract_end bs_extract_from bs_extract bs_append
end Go.Proofs.YtknlohmkachbmaaGreatDoor
namespace Lum
open Go Go.RowKit Go.Shelf
open Go.Lib (decDigits itoa)
end Lum
namespace Go.Proofs.YtknlohmkachbmaaGreatDoor
open Go.RowKit Go.Shelf Lum
open Go.Lib (decDigits itoa)
attribute [local go_sem] bs_get bs_extract_end bs_extract_from bs_extract bs_append
end Go.Proofs.YtknlohmkachbmaaGreatDoor
namespace Go.Proofs.YtknlohmkachbmaaGreatDoor
open Go.RowKit Go.Shelf Lum
open Go.Lib (decDigits itoa)
attribute [local go_sem] bs_get bs_extract_end bs_extract_from bs_extract bs_append
end Go.Proofs.YtknlohmkachbmaaGreatDoor
