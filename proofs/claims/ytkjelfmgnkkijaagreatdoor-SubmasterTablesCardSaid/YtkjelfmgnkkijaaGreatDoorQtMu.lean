/-
  Masters: the plain words. Masters: own slices of submasters; tables of which some are left out. Masters: the sources, and masters without some of them: the plain words. Masters: Check, on, grand, Grand of the program. Masters: within, Apply, the closure of Factor. Masters: product and Factor of the program. Masters: acting of the program. Masters: Sources of the program.
-/
import Derived.Test.YtkjelfmgnkkijaaGreatDoorQtNf
import Derived.Test.YtkjelfmgnkkijaaGreatDoorSp
import Derived.Test.YtkjelfmgnkkijaaGreatDoorOo
import Derived.Test.YtkjelfmgnkkijaaGreatDoorSx
import Derived.Test.YtkjelfmgnkkijaaGreatDoorSm
import Derived.Test.YtkjelfmgnkkijaaGreatDoorQtR2
set_option linter.unusedVariables false
set_option linter.unusedSimpArgs false
namespace Lum
open Go Go.RowKit Go.Shelf
open Go.Lib (decDigits itoa)
/-- The error of masters. -/
def maE (fr : Txt) (tz st ti : Int) (su : List Sb) (fd : List Fdr) : Int := if glE fr tz st ti ≠ 0 then glE fr tz st ti else if tabE su ≠ 0 then tabE su else facE fd
/-- The grand master. -/
def mainQ (fr : Txt) (tz st ti : Int) (bl : Bool) (t : Int) : Rat := if bl then 0 else glV (valR fr) tz st ti t / ((65535 : Int) : Rat)
/-- The factor of a channel, by the first k submasters. -/
def facQ (a : Rat) (su : List Sb) (fd : List Fdr) (ch t : Int) (k : Nat) : Rat := (su.take k).foldl (fun a s => a * sclQ s fd ch t) a
/-- Right masters, small. -/
structure MaOk (fr : Txt) (tz st ti : Int) (su : List Sb) (fd : List Fdr) : Prop where
  gl : glE fr tz st ti = 0
  len : fr.length ≤ 60
  tab : TabOk su
  fac : FacOk fd
  lens : ∀ i, i < fd.length → (fdv fd i).fr.length ≤ 60
/-- The submasters that act on a channel. -/
def actP (ch : Int) (s : Sb) : Bool := s.inh && (gnG s.gs ch 0).isSome
def actL (su : List Sb) (ch : Int) : List Sb := su.filter (actP ch)
def actN (su : List Sb) (ch : Int) : List Int := (actL su ch).map (·.nu)
/-- The error of masters and a channel. -/
def onE (fr : Txt) (tz st ti : Int) (su : List Sb) (fd : List Fdr) (ch : Int) : Int := if maE fr tz st ti su fd ≠ 0 then maE fr tz st ti su fd else if ch < 1 ∨ 999 < ch then 2 else 0
end Lum
namespace Lum
open Go Go.RowKit Go.Shelf
open Go.Lib (decDigits itoa)
/-- A submaster's cells, with the slice of its gains. -/
def encS (x : Sb × Value) : List Value := [.int .i64 x.1.nu, .int .i64 x.1.pr, .bool x.1.inh, x.2]
theorem encS_len (x : Sb × Value) : (encS x).length = 4 := rfl
theorem GnsAt.one {W : World} {v : Value} {l : List Gn} (h : GnsAt W v l) : v.oneCell' = true := by obtain ⟨p, c, rfl, -⟩ := h; rfl
theorem encS_one {W : World} {x : Sb × Value} (h : GnsAt W x.2 x.1.gs) : ∀ u ∈ encS x, u.oneCell' = true := by
  intro u hu
  simp only [encS, List.mem_cons, List.not_mem_nil, or_false] at hu
  rcases hu with rfl | rfl | rfl | rfl
  · rfl
  · rfl
  · rfl
  · exact h.one
theorem OwnR.subs {base : Nat} {e : TypeId} {W : World} {p : Option Addr} {c : Nat} {l : List (Sb × Value)} (h : OwnR encS 4 base e W p c l) (hg : ∀ x ∈ l, GnsAt W x.2 x.1.gs) : SbsAt W (.slice p l.length c) (l.map (·.1)) := by
  refine ⟨p, c, by rw [List.length_map], by rw [List.length_map]; exact h.cap, fun hn => ?_⟩
  obtain ⟨b, hp, hb, hc⟩ := h.at_ encS_len (fun e => hn (by rw [e]; rfl))
  refine ⟨b, 0, hp, hb, fun i hi => ?_⟩
  have hi2 : i < l.length := by simpa using hi
  have hs : sbv (l.map (·.1)) i = (l[i]'hi2).1 := by rw [← sbv_at hi]; simp
  rw [hs]
  have hx := hc i hi2
  exact ⟨hx 0 _ rfl, hx 1 _ rfl, hx 2 _ rfl, (l[i]'hi2).2, hx 3 _ rfl, hg _ (List.getElem_mem hi2)⟩
theorem filt_succ (p : Sb → Bool) {su : List Sb} {k : Nat} (h : k < su.length) : (su.take (k + 1)).filter p = (su.take k).filter p ++ (if p (sbv su k) then [sbv su k] else []) := by
  rw [List.take_succ_eq_append_getElem h, List.filter_append, sbv_at h]
  congr 1
  simp [List.filter_cons]
/-- The table without an inhibitive submaster. -/
def freeP (n : Int) (s : Sb) : Bool := s.nu != n || !s.inh
def freeL (su : List Sb) (n : Int) : List Sb := su.filter (freeP n)
def dropP (n : Int) (s : Sb) : Bool := s.nu != n
def dropL (su : List Sb) (n : Int) : List Sb := su.filter (dropP n)
/-- Whether a table has an inhibitive submaster with a number. -/
def hasI (su : List Sb) (n : Int) : Bool := su.any (fun s => s.nu == n && s.inh)
end Lum
namespace Lum
open Go Go.RowKit Go.Shelf
open Go.Lib (decDigits itoa)
/-- The sources of a channel: kinds and numbers. -/
def srcL (bl : Bool) (su : List Sb) (ch : Int) : List (Int × Int) := (5, 0) :: ((if bl then [(6, 0)] else []) ++ (actN su ch).map fun n => (7, n))
/-- Masters without the sources xs. -/
def aFr (xs : List (Int × Int)) (fr : Txt) : Txt := if xs.any (·.1 == 5) then [54, 53, 53, 51, 53] else fr
def aTo (xs : List (Int × Int)) (tz : Int) : Int := if xs.any (·.1 == 5) then 65535 else tz
def aZe (xs : List (Int × Int)) (st : Int) : Int := if xs.any (·.1 == 5) then 0 else st
def aBl (xs : List (Int × Int)) (bl : Bool) : Bool := bl && !xs.any (·.1 == 6)
def aSu (xs : List (Int × Int)) (su : List Sb) : List Sb := su.filter fun s => xs.all fun x => x.1 != 7 || freeP x.2 s
/-- What Without says of a source of right masters. -/
def woE (k n : Int) (su : List Sb) : Int := if k = 5 ∨ k = 6 then (if n ≠ 0 then 2 else 0) else if k = 7 then (if hasI su n then 0 else 6) else 1
end Lum
namespace Go.Proofs.YtkjelfmgnkkijaaGreatDoor
open Go.RowKit Go.Shelf Lum
open Go.Lib (decDigits itoa)
attribute [local go_sem] bs_get bs_extract_end bs_extract_from bs_extract bs_append

end Go.Proofs.YtkjelfmgnkkijaaGreatDoor
namespace Lum
open Go Go.RowKit Go.Shelf
open Go.Lib (decDigits itoa)
/-- The error of a number from 0 to a limit. -/
def wiE (v : Txt) (lim : Int) : Int := if ratCheck v ≠ 0 then ratCheck v else if valR v < 0 ∨ ((lim : Int) : Rat) < valR v then 2 else 0
/-- A level behind the masters. -/
def apT (v fa : Txt) (at_ : Int) : Txt × Int := if wiE v 65535 ≠ 0 then ([], wiE v 65535) else if wiE fa 1 ≠ 0 then ([], wiE fa 1) else if at_ < 0 ∨ 15 ≤ at_ then ([], 2) else if at_ ≠ 0 then (v, 0) else (showR (valR v * valR fa), 0)
end Lum
namespace Go.Proofs.YtkjelfmgnkkijaaGreatDoor
open Go.RowKit Go.Shelf Lum
open Go.Lib (decDigits itoa)
attribute [local go_sem] bs_get bs_extract_end bs_extract_from bs_extract bs_append

end Go.Proofs.YtkjelfmgnkkijaaGreatDoor
namespace Go.Proofs.YtkjelfmgnkkijaaGreatDoor
open Go.RowKit Go.Shelf Lum
open Go.Lib (decDigits itoa)
attribute [local go_sem] bs_get bs_extract_end bs_extract_from bs_extract bs_append

end Go.Proofs.YtkjelfmgnkkijaaGreatDoor
namespace Lum
open Go Go.RowKit Go.Shelf
open Go.Lib (decDigits itoa)
/-- Whether one of the first m gains is for the intensity of a channel. -/
def hitB (gs : List Gn) (ch : Int) (m : Nat) : Bool := (gs.take m).any fun g => g.ch == ch && g.at_ == 0
end Lum
namespace Go.Proofs.YtkjelfmgnkkijaaGreatDoor
open Go.RowKit Go.Shelf Lum
open Go.Lib (decDigits itoa)
attribute [local go_sem] bs_get bs_extract_end bs_extract_from bs_extract bs_append

theorem cell_new_of {cs : List Value} (w : World) (t : TypeId) {j : Nat} {u : Value} (h : cs[j]? = some u) : (w.alloc (.cells cs.toArray t)).cell? ⟨w.heap.size, j, none⟩ = some u := by
  rw [World.cell?_alloc_new]; simpa using h
theorem info_sub : (Tryz.prog.info? 58).map (fun i => (i.zero, i.size, i.bytes)) = some (some (.agg #[.int .i64 0, .int .i64 0, .bool false, .slice none 0 0]), 4, 48) := by kernel_rfl
end Go.Proofs.YtkjelfmgnkkijaaGreatDoor
namespace Lum
open Go Go.RowKit Go.Shelf
open Go.Lib (decDigits itoa)
/-- A pair's cells. -/
def encP (x : Int × Int) : List Value := [.int .i64 x.1, .int .i64 x.2]
/-- The submasters' own cells, in one world. -/
def SbF (W : World) (b o : Nat) (l : List Sb) : Prop := ∀ i, i < l.length → W.cell? ⟨b, o + i * 4, none⟩ = some (.int .i64 (sbv l i).nu) ∧ W.cell? ⟨b, o + i * 4 + 1, none⟩ = some (.int .i64 (sbv l i).pr) ∧ W.cell? ⟨b, o + i * 4 + 2, none⟩ = some (.bool (sbv l i).inh) ∧
  ∃ q n c, W.cell? ⟨b, o + i * 4 + 3, none⟩ = some (.slice q n c)
/-- A slice of submasters that lies beside a call's own slice at pp. -/
def SrcK (W : World) (pv pp : Option Addr) (l : List Sb) : Prop := l ≠ [] → ∃ b o, pv = some ⟨b, o, none⟩ ∧ b < W.heap.size ∧ SbF W b o l ∧ ∀ a, pp = some a → b ≠ a.block
theorem SbF.of_heap {W W' : World} {b o : Nat} {l : List Sb} (h : SbF W b o l) (e : W'.heap[b]? = W.heap[b]?) : SbF W' b o l := fun i hi => by
  obtain ⟨h1, h2, h3, q, n, c, h4⟩ := h i hi
  exact ⟨(World.cell?_of_block (w := W) (a := ⟨b, o + i * 4, none⟩) e).trans h1, (World.cell?_of_block (w := W) (a := ⟨b, o + i * 4 + 1, none⟩) e).trans h2, (World.cell?_of_block (w := W) (a := ⟨b, o + i * 4 + 2, none⟩) e).trans h3, q, n, c, (World.cell?_of_block (w := W) (a := ⟨b, o + i * 4 + 3, none⟩) e).trans h4⟩
theorem SrcK.below {W W' : World} {pv pp : Option Addr} {l : List Sb} (h : SrcK W pv pp l) (hb : Below W.heap.size W W') : SrcK W' pv pp l := fun hn => by
  obtain ⟨b, o, h1, h2, h3, h4⟩ := h hn
  exact ⟨b, o, h1, Nat.lt_of_lt_of_le h2 hb.size, h3.of_heap (hb.block b h2), h4⟩
/-- The sources before those of the submasters. -/
def srcH (bl : Bool) : List (Int × Int) := (5, 0) :: (if bl then [(6, 0)] else [])
end Lum
namespace Go.Proofs.YtkjelfmgnkkijaaGreatDoor
open Go.RowKit Go.Shelf Lum
open Go.Lib (decDigits itoa)
attribute [local go_sem] bs_get bs_extract_end bs_extract_from bs_extract bs_append

end Go.Proofs.YtkjelfmgnkkijaaGreatDoor
