/-
  Law 26: the program and the reference at once; the law SubmasterGives.
-/
import Derived.Test.YtkjelfmgnkkijaaGreatDoorSe
import Derived.Test.YtkjelfmgnkkijaaGreatDoorNf
set_option linter.unusedVariables false
set_option linter.unusedSimpArgs false
namespace Lum
open Go Go.RowKit Go.Shelf
open Go.Lib (decDigits itoa)
theorem sbs_one {W : World} {g : Nat} {t : TypeId} {nu pr : Int} {inh : Bool} {gv : Value} {gs : List Gn} (h : Blk W g t #[.int .i64 nu, .int .i64 pr, .bool inh, gv]) (hg : GnsAt W gv gs) : SbsAt W (.slice (some ⟨g, 0, none⟩) 1 1) [⟨nu, pr, inh, gs⟩] := by
  refine ⟨_, _, rfl, Nat.le_refl _, fun _ => ⟨g, 0, rfl, h.lt, fun i hi => ?_⟩⟩
  match i, hi with
  | 0, _ => exact ⟨h.c4.1, h.c4.2.1, h.c4.2.2.1, gv, h.c4.2.2.2.1, hg⟩
theorem blkN2 (w : World) (o p : Obj) (t : TypeId) (cs : Array Value) : Blk (((w.alloc o).alloc p).alloc (.cells cs t)) (w.heap.size + 1 + 1) t cs := by
  have h := Blk.new ((w.alloc o).alloc p) t cs
  rwa [World.size_alloc, World.size_alloc] at h
theorem parE_ch {ch a : Int} (h : parE ch a = 0) : parE ch 0 = 0 := parE_in (by have := parE_zero h; omega)
theorem parE_cases (ch : Int) : (parE ch 0 = 0 ∧ 1 ≤ ch ∧ ch ≤ 999) ∨ (parE ch 0 = 2 ∧ (ch < 1 ∨ 999 < ch)) := by
  by_cases h : ch < 1 ∨ 999 < ch
  · exact .inr ⟨parE_out (by omega), h⟩
  · exact .inl ⟨parE_in (by omega), by omega, by omega⟩
end Lum
namespace Go.Proofs.YtkjelfmgnkkijaaGreatDoor
open Go.RowKit Go.Shelf Lum
open Go.Lib (decDigits itoa)
attribute [local go_sem] bs_get bs_extract_end bs_extract_from bs_extract bs_append

theorem g26_level (nu pr t : Int) (inh : Bool) (gs : List Gn) (l : List Fdr) (pg : Option Addr) (cg : Nat) (lv : Value) (hlen : ∀ i, i < l.length → (fdv l i).fr.length ≤ 60) :
    ∃ (tx : Txt) (m : Int), (∀ W, GnsAt W (.slice pg gs.length cg) gs → FdsAt W lv l → Env W → Calls Tryz.prog 34 #[.agg #[.int .i64 nu, .int .i64 pr, .bool (inh), (.slice pg gs.length cg)], lv, .int .i64 t] W fun e w' => e = .returned (.tuple #[.string ⟨(tx).toArray⟩, .int .i64 m]) ∧ Below W.heap.size W w') ∧
      (∀ W, GnsAt W (.slice pg gs.length cg) gs → FdsAt W lv l → Calls Tryz.prog 35 #[.agg #[.int .i64 nu, .int .i64 pr, .bool (inh), (.slice pg gs.length cg)], lv, .int .i64 t] W fun e w' => e = .returned (.tuple #[.string ⟨(tx).toArray⟩, .int .i64 m]) ∧ Below W.heap.size W w') := by
  by_cases hz : gvE ⟨nu, pr, inh, gs⟩ l = 0
  · obtain ⟨hs, hf⟩ := gvE_zero hz
    exact ⟨_, 0, fun W h1 h2 e => own_slev_ok nu pr t inh gs l (.slice pg gs.length cg) lv W h1 h2 hs hf (fun i hi => Nat.le_trans (hlen i hi) (by omega)) e, fun W h1 h2 => r26_lev_ok nu pr t inh gs l (.slice pg gs.length cg) lv W h1 h2 (fun i hi => Nat.le_trans (hlen i hi) (by omega)) hz⟩
  · exact ⟨[], _, fun W h1 h2 e => own_slev_bad nu pr t inh gs l (.slice pg gs.length cg) lv W h1 h2 (fun i hi => Nat.le_trans (hlen i hi) (by omega)) hz e, fun W h1 h2 => r26_lev_bad nu pr t inh gs l (.slice pg gs.length cg) lv W h1 h2 (fun i hi => Nat.le_trans (hlen i hi) (by omega)) hz⟩

end Go.Proofs.YtkjelfmgnkkijaaGreatDoor
