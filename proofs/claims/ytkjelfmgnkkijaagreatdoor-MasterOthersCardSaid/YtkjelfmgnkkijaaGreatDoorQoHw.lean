/-
  Law 30: House, at. Law 30: slices.Equal at sources; awake.
-/
import Derived.Test.YtkjelfmgnkkijaaGreatDoorNf
import Derived.Test.YtkjelfmgnkkijaaGreatDoorQoMv
import Derived.Deep.RegionHeld3
import Derived.Test.YtkjelfmgnkkijaaGreatDoorOo
import Derived.Test.YtkjelfmgnkkijaaGreatDoorQq
import Derived.Laws.StructEq
set_option linter.unusedVariables false
set_option linter.unusedSimpArgs false
namespace Lum
open Go Go.RowKit Go.Shelf
open Go.Lib (decDigits itoa)
/-- The submasters of the examples. -/
def houseL : List Sb := [⟨4, 0, true, [⟨1, 0, 65535⟩]⟩, ⟨6, 0, true, [⟨1, 0, 13107⟩, ⟨2, 0, 13107⟩]⟩]
theorem house_at {W : World} {g1 g2 g3 : Nat} {t1 t2 : TypeId} (h1 : Blk W g1 t1 #[.int .i64 4, .int .i64 0, .bool true, .slice (some ⟨g2, 0, none⟩) 1 1, .int .i64 6, .int .i64 0, .bool true, .slice (some ⟨g3, 0, none⟩) 2 2])
    (h2 : Blk W g2 t2 #[.int .i64 1, .int .i64 0, .int .i64 65535]) (h3 : Blk W g3 t2 #[.int .i64 1, .int .i64 0, .int .i64 13107, .int .i64 2, .int .i64 0, .int .i64 13107]) : SbsAt W (.slice (some ⟨g1, 0, none⟩) 2 2) houseL := by
  have a2 : GnsAt W (.slice (some ⟨g2, 0, none⟩) 1 1) [⟨1, 0, 65535⟩] := by
    refine ⟨_, _, rfl, Nat.le_refl _, fun _ => ⟨g2, 0, rfl, h2.lt, fun i hi => ?_⟩⟩
    match i, hi with
    | 0, _ => exact ⟨h2.c3.1, h2.c3.2.1, h2.c3.2.2.1⟩
  have a3 : GnsAt W (.slice (some ⟨g3, 0, none⟩) 2 2) [⟨1, 0, 13107⟩, ⟨2, 0, 13107⟩] := by
    refine ⟨_, _, rfl, Nat.le_refl _, fun _ => ⟨g3, 0, rfl, h3.lt, fun i hi => ?_⟩⟩
    match i, hi with
    | 0, _ => exact ⟨h3.c6.1, h3.c6.2.1, h3.c6.2.2.1⟩
    | 1, _ => exact ⟨h3.c6.2.2.2.1, h3.c6.2.2.2.2.1, h3.c6.2.2.2.2.2.1⟩
  refine ⟨_, _, rfl, Nat.le_refl _, fun _ => ⟨g1, 0, rfl, h1.lt, fun i hi => ?_⟩⟩
  match i, hi with
  | 0, _ => exact ⟨h1.c8.1, h1.c8.2.1, h1.c8.2.2.1, _, h1.c8.2.2.2.1, a2⟩
  | 1, _ => exact ⟨h1.c8.2.2.2.2.1, h1.c8.2.2.2.2.2.1, h1.c8.2.2.2.2.2.2.1, _, h1.c8.2.2.2.2.2.2.2.1, a3⟩
end Lum
namespace Go.Proofs.YtkjelfmgnkkijaaGreatDoor
open Go.RowKit Go.Shelf Lum
open Go.Lib (decDigits itoa)
attribute [local go_sem] bs_get bs_extract_end bs_extract_from bs_extract bs_append

set_option maxRecDepth 100000 in
set_option maxHeartbeats 2000000 in
theorem l30_at (n v : Int) (w : World) :
    Calls Tryz.prog 76 #[.int .i64 n, .int .i64 v] w fun e w' => e = .returned (.agg #[.int .i64 n, .string ⟨#[48]⟩, .int .i64 v, .int .i64 0, .int .i64 0, .int .i64 0]) ∧ Below w.heap.size w w' := by
  go_enter Tryz.func76, Tryz.ntmps76
  go_wp2
  refine bodyPost_ret_by (v := .agg #[.int .i64 n, .string ⟨#[48]⟩, .int .i64 v, .int .i64 0, .int .i64 0, .int .i64 0]) (by simp [results, Tryz.f76, go_sem]) rfl ⟨rfl, ?_⟩
  exact (Below.refl _ _).alloc (Nat.le_refl _) _

theorem house_ret {W : World} {R : Nat} {v0 v1 v2 v3 v4 v5 v6 : Value} {t0 t1 t3 t4 t5 t6 t7 t8 t9 t10 t11 t12 t13 t14 t15 t16 t17 t18 t19 t20 : Value} {post : Ending → World → Prop} (hB : Blk W R 28 #[v0, v1, v2, v3, v4, v5, v6]) (h : post (.returned (.agg #[v0, v1, v2, v3, v4, v5, v6])) W) :
    bodyPost Tryz.prog Tryz.f75 post .ret { tmps := #[t0, t1, .pointer (some ⟨R, 0, none⟩), t3, t4, t5, t6, t7, t8, t9, t10, t11, t12, t13, t14, t15, t16, t17, t18, t19, t20], defers := [] } W := by
  obtain ⟨z0, z1, z2, z3, z4, z5, z6, y0, y1, y2, y3, y4, y5, y6⟩ := hB.c7
  exact bodyPost_ret_by (v := .agg #[v0, v1, v2, v3, v4, v5, v6]) (by simp [results, Tryz.f75, go_sem, z0, z1, z2, z3, z4, z5, z6]) rfl h

theorem size7 {cs : Array Value} (h : cs.size = 7) : ∃ a0 a1 a2 a3 a4 a5 a6, cs = #[a0, a1, a2, a3, a4, a5, a6] := by
  obtain ⟨l⟩ := cs
  match l, h with
  | [a, b, c, d, e, f, g], _ => exact ⟨a, b, c, d, e, f, g, rfl⟩
theorem blk_new1 (w : World) (o : Obj) (t : TypeId) (cs : Array Value) : Blk ((w.alloc o).alloc (.cells cs t)) (w.heap.size + 1) t cs := by
  have h := Blk.new (w.alloc o) t cs
  rwa [World.size_alloc] at h
theorem blk_new2 (w : World) (o p : Obj) (t : TypeId) (cs : Array Value) : Blk (((w.alloc o).alloc p).alloc (.cells cs t)) (w.heap.size + 1 + 1) t cs := by
  have h := Blk.new ((w.alloc o).alloc p) t cs
  rwa [World.size_alloc, World.size_alloc] at h
theorem blk_newE {w : World} {t : TypeId} {cs : Array Value} {g : Nat} (h : g = w.heap.size) : Blk (w.alloc (.cells cs t)) g t cs := by
  subst h; exact Blk.new w t cs
theorem blk_ne {W : World} {g r : Nat} {t u : TypeId} {c d : Array Value} (h : Blk W g t c) (h2 : Blk W r u d) (ht : t ≠ u) : g ≠ r := by
  intro e
  subst e
  have h3 := Option.some.inj (h.symm.trans h2)
  injection h3 with h4 h5
  exact ht h5

set_option maxRecDepth 100000 in
set_option maxHeartbeats 4000000 in
theorem l30_house (fv : Value) (fd : List Fdr) (w : World) (hf : FdsAt w fv fd) :
    Calls Tryz.prog 75 #[fv] w fun e w' => ∃ sv, e = .returned (.agg #[.string ⟨#[54, 53, 53, 51, 53]⟩, .int .i64 65535, .int .i64 0, .int .i64 0, .bool false, sv, fv]) ∧ SbsAt w' sv houseL ∧ Below w.heap.size w w' := by
  obtain ⟨pf, zf, rfl⟩ : ∃ pf zf, fv = .slice pf fd.length zf := by obtain ⟨a, b, e, -⟩ := hf; exact ⟨a, b, e⟩
  have hfu := fun W => r3_full W
  have HFU := Lib.hid hfu; clear hfu
  have hal := (((Below.refl w.heap.size w).alloc (Nat.le_refl _) (.cells #[.string ⟨#[]⟩, .int .i64 0, .int .i64 0, .int .i64 0, .bool false, .slice none 0 0, .slice none 0 0] 28)).alloc (by simp) (.cells #[.int .i64 1, .int .i64 0] 72)).alloc (by simp; omega) (.cells #[.int .i64 2, .int .i64 0] 72)
  have hR := ((Blk.new w 28 #[.string ⟨#[]⟩, .int .i64 0, .int .i64 0, .int .i64 0, .bool false, .slice none 0 0, .slice none 0 0]).alloc (.cells #[.int .i64 1, .int .i64 0] 72)).alloc (.cells #[.int .i64 2, .int .i64 0] 72)
  have hA := (Blk.new (w.alloc (.cells #[.string ⟨#[]⟩, .int .i64 0, .int .i64 0, .int .i64 0, .bool false, .slice none 0 0, .slice none 0 0] 28)) 72 #[.int .i64 1, .int .i64 0]).alloc (.cells #[.int .i64 2, .int .i64 0] 72)
  rw [World.size_alloc] at hA
  have hC := Blk.new ((w.alloc (.cells #[.string ⟨#[]⟩, .int .i64 0, .int .i64 0, .int .i64 0, .bool false, .slice none 0 0, .slice none 0 0] 28)).alloc (.cells #[.int .i64 1, .int .i64 0] 72)) 72 #[.int .i64 2, .int .i64 0]
  rw [World.size_alloc, World.size_alloc] at hC
  go_enter Tryz.func75, Tryz.ntmps75
  go_upto_region 2 with fail
  generalize (((w.alloc (.cells #[.string ⟨#[]⟩, .int .i64 0, .int .i64 0, .int .i64 0, .bool false, .slice none 0 0, .slice none 0 0] 28)).alloc (.cells #[.int .i64 1, .int .i64 0] 72)).alloc (.cells #[.int .i64 2, .int .i64 0] 72)) = w1 at *
  obtain ⟨φ, hφ⟩ : ∃ φ : World → Nat → Value, ∀ W i, φ W i = (W.cell? ⟨w.heap.size, i, none⟩).getD undef := ⟨_, fun _ _ => rfl⟩
  obtain ⟨SS, hSS⟩ : ∃ SS : World → Prop, ∀ W', SS W' ↔ (Below w.heap.size w W' ∧ Blk W' (w.heap.size + 1) 72 #[.int .i64 1, .int .i64 0] ∧ Blk W' (w.heap.size + 1 + 1) 72 #[.int .i64 2, .int .i64 0] ∧ ∃ cs : Array Value, cs.size = 7 ∧ Blk W' w.heap.size 28 cs) := ⟨fun W' => Below w.heap.size w W' ∧ Blk W' (w.heap.size + 1) 72 #[.int .i64 1, .int .i64 0] ∧ Blk W' (w.heap.size + 1 + 1) 72 #[.int .i64 2, .int .i64 0] ∧ ∃ cs : Array Value, cs.size = 7 ∧ Blk W' w.heap.size 28 cs, fun _ => Iff.rfl⟩
  have HBO : Hid (∀ W', SS W' → (W'.cell? ⟨(w.heap.size + 1), 0, none⟩ = some (.int .i64 1) ∧ W'.cell? ⟨(w.heap.size + 1), 1, none⟩ = some (.int .i64 0) ∧ W'.cell? ⟨(w.heap.size + 1 + 1), 0, none⟩ = some (.int .i64 2) ∧ W'.cell? ⟨(w.heap.size + 1 + 1), 1, none⟩ = some (.int .i64 0) ∧ W'.cell? ⟨w.heap.size, 0, none⟩ = some (φ W' 0) ∧ W'.cell? ⟨w.heap.size, 1, none⟩ = some (φ W' 1) ∧ W'.cell? ⟨w.heap.size, 2, none⟩ = some (φ W' 2) ∧ W'.cell? ⟨w.heap.size, 3, none⟩ = some (φ W' 3) ∧ W'.cell? ⟨w.heap.size, 4, none⟩ = some (φ W' 4) ∧ W'.cell? ⟨w.heap.size, 5, none⟩ = some (φ W' 5) ∧ W'.cell? ⟨w.heap.size, 6, none⟩ = some (φ W' 6) ∧ W'.frozen? ⟨w.heap.size, 0, none⟩ = false ∧ W'.frozen? ⟨w.heap.size, 1, none⟩ = false ∧ W'.frozen? ⟨w.heap.size, 2, none⟩ = false ∧ W'.frozen? ⟨w.heap.size, 3, none⟩ = false ∧ W'.frozen? ⟨w.heap.size, 4, none⟩ = false ∧ W'.frozen? ⟨w.heap.size, 5, none⟩ = false ∧ W'.frozen? ⟨w.heap.size, 6, none⟩ = false ∧ SS W')) := Lib.hid fun W' hs => by obtain ⟨h1, h2, h3, cs, h4, h5⟩ := (hSS W').1 hs; exact ⟨h2.c2.1, h2.c2.2.1, h3.c2.1, h3.c2.2.1, by rw [hφ, h5.cell 0, Array.getElem?_eq_getElem (by omega)]; rfl, by rw [hφ, h5.cell 1, Array.getElem?_eq_getElem (by omega)]; rfl, by rw [hφ, h5.cell 2, Array.getElem?_eq_getElem (by omega)]; rfl, by rw [hφ, h5.cell 3, Array.getElem?_eq_getElem (by omega)]; rfl, by rw [hφ, h5.cell 4, Array.getElem?_eq_getElem (by omega)]; rfl, by rw [hφ, h5.cell 5, Array.getElem?_eq_getElem (by omega)]; rfl, by rw [hφ, h5.cell 6, Array.getElem?_eq_getElem (by omega)]; rfl, h5.frozen 0, h5.frozen 1, h5.frozen 2, h5.frozen 3, h5.frozen 4, h5.frozen 5, h5.frozen 6, hs⟩
  have HS1 : Hid (SS w1) := Lib.hid ((hSS _).2 ⟨hal, hA, hC, #[.string ⟨#[]⟩, .int .i64 0, .int .i64 0, .int .i64 0, .bool false, .slice none 0 0, .slice none 0 0], rfl, hR⟩)
  have HKE : Hid (∀ A B, SS A → Below A.heap.size A B → SS B) := Lib.hid fun A B hs hb => by obtain ⟨h1, h2, h3, cs, h4, h5⟩ := (hSS A).1 hs; exact (hSS B).2 ⟨bch' h1 hb, h2.keep hb, h3.keep hb, cs, h4, h5.keep hb⟩
  have HSE : Hid (∀ (A : World) (j : Nat) (v : Value), SS A → SS (A.setCell ⟨w.heap.size, j, none⟩ v)) := Lib.hid fun A j v hs => by obtain ⟨h1, h2, h3, cs, h4, h5⟩ := (hSS A).1 hs; exact (hSS _).2 ⟨h1.setCell (Nat.le_refl _) _, h2.far (by show _ ≠ w.heap.size; omega) _, h3.far (by show _ ≠ w.heap.size; omega) _, _, by simpa using h4, h5.set_ j v⟩
  have HFIN : Hid (∀ (A : World) (v0 v1 v2 v3 v4 v5 v6 : Value), SS A → Blk (((((((A.setCell ⟨w.heap.size, 0, none⟩ v0).setCell ⟨w.heap.size, 1, none⟩ v1).setCell ⟨w.heap.size, 2, none⟩ v2).setCell ⟨w.heap.size, 3, none⟩ v3).setCell ⟨w.heap.size, 4, none⟩ v4).setCell ⟨w.heap.size, 5, none⟩ v5).setCell ⟨w.heap.size, 6, none⟩ v6) w.heap.size 28 #[v0, v1, v2, v3, v4, v5, v6]) := Lib.hid fun A v0 v1 v2 v3 v4 v5 v6 hs => by obtain ⟨h1, h2, h3, cs, h4, h5⟩ := (hSS A).1 hs; obtain ⟨a0, a1, a2, a3, a4, a5, a6, rfl⟩ := size7 h4; exact h5.all7 v0 v1 v2 v3 v4 v5 v6
  have HFA : Hid (∀ (A : World) (v0 v1 v2 v3 v4 v5 v6 : Value) (g : Nat) (t : TypeId) (c : Array Value), SS A → Blk A g t c → t ≠ 28 → Blk (((((((A.setCell ⟨w.heap.size, 0, none⟩ v0).setCell ⟨w.heap.size, 1, none⟩ v1).setCell ⟨w.heap.size, 2, none⟩ v2).setCell ⟨w.heap.size, 3, none⟩ v3).setCell ⟨w.heap.size, 4, none⟩ v4).setCell ⟨w.heap.size, 5, none⟩ v5).setCell ⟨w.heap.size, 6, none⟩ v6) g t c) := Lib.hid fun A v0 v1 v2 v3 v4 v5 v6 g t c hs hb ht => by obtain ⟨h1, h2, h3, cs, h4, h5⟩ := (hSS A).1 hs; have hg := blk_ne hb h5 ht; exact ((((((hb.far hg _).far hg _).far hg _).far hg _).far hg _).far hg _).far hg _
  have HBE : Hid (∀ (A : World) (v0 v1 v2 v3 v4 v5 v6 : Value), SS A → Below w.heap.size w (((((((A.setCell ⟨w.heap.size, 0, none⟩ v0).setCell ⟨w.heap.size, 1, none⟩ v1).setCell ⟨w.heap.size, 2, none⟩ v2).setCell ⟨w.heap.size, 3, none⟩ v3).setCell ⟨w.heap.size, 4, none⟩ v4).setCell ⟨w.heap.size, 5, none⟩ v5).setCell ⟨w.heap.size, 6, none⟩ v6)) := Lib.hid fun A v0 v1 v2 v3 v4 v5 v6 hs => by obtain ⟨h1, -⟩ := (hSS A).1 hs; exact ((((((h1.setCell (Nat.le_refl _) _).setCell (Nat.le_refl _) _).setCell (Nat.le_refl _) _).setCell (Nat.le_refl _) _).setCell (Nat.le_refl _) _).setCell (Nat.le_refl _) _).setCell (Nat.le_refl _) _
  clear hSS hφ hal hA hC hR hf
  go_region_held3 (fun W' => W'.cell? ⟨(w.heap.size + 1), 0, none⟩ = some (.int .i64 1) ∧ W'.cell? ⟨(w.heap.size + 1), 1, none⟩ = some (.int .i64 0) ∧ W'.cell? ⟨(w.heap.size + 1 + 1), 0, none⟩ = some (.int .i64 2) ∧ W'.cell? ⟨(w.heap.size + 1 + 1), 1, none⟩ = some (.int .i64 0) ∧ W'.cell? ⟨w.heap.size, 0, none⟩ = some (φ W' 0) ∧ W'.cell? ⟨w.heap.size, 1, none⟩ = some (φ W' 1) ∧ W'.cell? ⟨w.heap.size, 2, none⟩ = some (φ W' 2) ∧ W'.cell? ⟨w.heap.size, 3, none⟩ = some (φ W' 3) ∧ W'.cell? ⟨w.heap.size, 4, none⟩ = some (φ W' 4) ∧ W'.cell? ⟨w.heap.size, 5, none⟩ = some (φ W' 5) ∧ W'.cell? ⟨w.heap.size, 6, none⟩ = some (φ W' 6) ∧ W'.frozen? ⟨w.heap.size, 0, none⟩ = false ∧ W'.frozen? ⟨w.heap.size, 1, none⟩ = false ∧ W'.frozen? ⟨w.heap.size, 2, none⟩ = false ∧ W'.frozen? ⟨w.heap.size, 3, none⟩ = false ∧ W'.frozen? ⟨w.heap.size, 4, none⟩ = false ∧ W'.frozen? ⟨w.heap.size, 5, none⟩ = false ∧ W'.frozen? ⟨w.heap.size, 6, none⟩ = false ∧ SS W') (with_reducible refine HBO.out _ ?_; ((repeat (first | with_reducible refine HSE.out _ _ _ ?_ | with_reducible refine HKE.out _ _ ?_ ((Below.refl _ _).drew) | with_reducible refine HKE.out _ _ ?_ ((Below.refl _ _).alloc (Nat.le_refl _) _) | with_reducible refine HKE.out _ _ ?_ hbw)); with_reducible exact HS1.out)) (first | (go_at_call 134; refine (HFU.out _).mono ?_; rintro e w9 ⟨rfl, hbw⟩))
  all_goals (go_wp2_with fail; refine house_ret (HFIN.out _ _ _ _ _ _ _ _ ?_) ⟨_, rfl, ?_, HBE.out _ _ _ _ _ _ _ _ ?_⟩)
  all_goals first | ((repeat (first | with_reducible refine HSE.out _ _ _ ?_ | with_reducible refine HKE.out _ _ ?_ ((Below.refl _ _).drew) | with_reducible refine HKE.out _ _ ?_ ((Below.refl _ _).alloc (Nat.le_refl _) _) | with_reducible refine HKE.out _ _ ?_ hbw)); with_reducible exact HS1.out) | (apply house_at (t1 := 58) (t2 := 85); (focus (with_reducible refine HFA.out _ _ _ _ _ _ _ _ _ 58 _ ?_ ?_ (by decide); ((repeat (first | with_reducible refine HSE.out _ _ _ ?_ | with_reducible refine HKE.out _ _ ?_ ((Below.refl _ _).drew) | with_reducible refine HKE.out _ _ ?_ ((Below.refl _ _).alloc (Nat.le_refl _) _) | with_reducible refine HKE.out _ _ ?_ hbw)); with_reducible exact HS1.out); ((repeat (first | (with_reducible refine blk_newE ?_; first | with_reducible rfl | (rw [World.size_alloc]; done) | (rw [World.size_alloc, World.size_alloc]; done)) | with_reducible refine Blk.drew ?_ | with_reducible refine Blk.alloc ?_ _ | with_reducible refine Blk.keep ?_ hbw)); done))); (focus (with_reducible refine HFA.out _ _ _ _ _ _ _ _ _ 85 _ ?_ ?_ (by decide); ((repeat (first | with_reducible refine HSE.out _ _ _ ?_ | with_reducible refine HKE.out _ _ ?_ ((Below.refl _ _).drew) | with_reducible refine HKE.out _ _ ?_ ((Below.refl _ _).alloc (Nat.le_refl _) _) | with_reducible refine HKE.out _ _ ?_ hbw)); with_reducible exact HS1.out); ((repeat (first | (with_reducible refine blk_newE ?_; first | with_reducible rfl | (rw [World.size_alloc]; done) | (rw [World.size_alloc, World.size_alloc]; done)) | with_reducible refine Blk.drew ?_ | with_reducible refine Blk.alloc ?_ _ | with_reducible refine Blk.keep ?_ hbw)); done))); (focus (with_reducible refine HFA.out _ _ _ _ _ _ _ _ _ 85 _ ?_ ?_ (by decide); ((repeat (first | with_reducible refine HSE.out _ _ _ ?_ | with_reducible refine HKE.out _ _ ?_ ((Below.refl _ _).drew) | with_reducible refine HKE.out _ _ ?_ ((Below.refl _ _).alloc (Nat.le_refl _) _) | with_reducible refine HKE.out _ _ ?_ hbw)); with_reducible exact HS1.out); ((repeat (first | (with_reducible refine blk_newE ?_; first | with_reducible rfl | (rw [World.size_alloc]; done) | (rw [World.size_alloc, World.size_alloc]; done)) | with_reducible refine Blk.drew ?_ | with_reducible refine Blk.alloc ?_ _ | with_reducible refine Blk.keep ?_ hbw)); done))))
end Go.Proofs.YtkjelfmgnkkijaaGreatDoor
namespace Lum
open Go Go.RowKit Go.Shelf
open Go.Lib (decDigits itoa)
theorem pts_three (W : World) (a b c d e f : Int) (t : TypeId) : PtsAt (W.alloc (.cells #[.int .i64 a, .int .i64 b, .int .i64 c, .int .i64 d, .int .i64 e, .int .i64 f] t)) (.slice (some ⟨W.heap.size, 0, none⟩) 3 3) [(a, b), (c, d), (e, f)] := by
  refine ⟨_, _, rfl, fun _ => ⟨W.heap.size, 0, rfl, by simp, fun i hi => ?_⟩⟩
  rw [World.cell?_alloc_new, World.cell?_alloc_new]
  match i, hi with
  | 0, _ => exact ⟨rfl, rfl⟩
  | 1, _ => exact ⟨rfl, rfl⟩
  | 2, _ => exact ⟨rfl, rfl⟩
def PtC (W : World) (b o : Nat) (l : List (Int × Int)) : Prop := ∀ i, i < l.length → W.cell? ⟨b, o + i * 2, none⟩ = some (.int .i64 (pX l i)) ∧ W.cell? ⟨b, o + i * 2 + 1, none⟩ = some (.int .i64 (pY l i))
theorem PtC.below {W W' : World} {b o B : Nat} {l : List (Int × Int)} (h : PtC W b o l) (hb : Below B W W') (hl : b < B) : PtC W' b o l :=
  fun i hi => ⟨(hb.cell (p := ⟨b, o + i * 2, none⟩) hl).trans (h i hi).1, (hb.cell (p := ⟨b, o + i * 2 + 1, none⟩) hl).trans (h i hi).2⟩
theorem fds_two {W : World} {g : Nat} {t : TypeId} {n v m u : Int} (h : Blk W g t #[.int .i64 n, .string ⟨#[48]⟩, .int .i64 v, .int .i64 0, .int .i64 0, .int .i64 0, .int .i64 m, .string ⟨#[48]⟩, .int .i64 u, .int .i64 0, .int .i64 0, .int .i64 0]) : FdsAt W (.slice (some ⟨g, 0, none⟩) 2 2) [fdN n v, fdN m u] := by
  refine ⟨_, _, rfl, Nat.le_refl _, fun _ => ⟨g, 0, rfl, h.lt, fun i hi => ?_⟩⟩
  match i, hi with
  | 0, _ => exact ⟨h.c12.1, h.c12.2.1, h.c12.2.2.1, h.c12.2.2.2.1, h.c12.2.2.2.2.1, h.c12.2.2.2.2.2.1⟩
  | 1, _ => exact ⟨h.c12.2.2.2.2.2.2.1, h.c12.2.2.2.2.2.2.2.1, h.c12.2.2.2.2.2.2.2.2.1, h.c12.2.2.2.2.2.2.2.2.2.1, h.c12.2.2.2.2.2.2.2.2.2.2.1, h.c12.2.2.2.2.2.2.2.2.2.2.2.1⟩
end Lum
namespace Go.Proofs.YtkjelfmgnkkijaaGreatDoor
open Go.RowKit Go.Shelf Lum
open Go.Lib (decDigits itoa)
attribute [local go_sem] bs_get bs_extract_end bs_extract_from bs_extract bs_append

theorem neq_src (W : World) (a b c d : Int) : (binOp .neq 43 (.agg #[.int .i64 a, .int .i64 b]) (.agg #[.int .i64 c, .int .i64 d])).run Tryz.prog W = .ok (.bool (!((a == c) && (b == d)))) W := by
  have h1 : Tryz.prog.underlying 43 = some (.struct (Tryz.prog.fieldsOf 43)) := by kernel_rfl
  have h2 : Tryz.prog.stoodInHeld 43 = false := by kernel_rfl
  rw [run_neq_struct, run_equalIn_agg W 9999 _ _ _ h1 h2]
  have hf := TypeDesc.struct.inj (Option.some.inj (h1.symm.trans Tryz.underlying43))
  rw [hf]
  simp [Op.eqFields, go_sem, Tryz.underlying3]
  by_cases e1 : a = c
  · by_cases e2 : b = d
    · simp [e1, e2]
    · simp [e1, e2]
  · simp [e1]

set_option maxRecDepth 100000 in
set_option maxHeartbeats 4000000 in
theorem src_eq (w : World) (l : List (Int × Int)) (va vb : Value) (ha : PtsAt w va l) (hb : PtsAt w vb l) (hn0 : l.length ≤ 1000000) :
    Calls Tryz.prog 79 #[va, vb] w fun e w' => e = .returned (.bool (true)) ∧ Below w.heap.size w w' := by
  obtain ⟨p1, c1, rfl, ha9⟩ := ha
  obtain ⟨p2, c2, rfl, hb9⟩ := hb
  have ha1 := Lib.hid ha9; have ha2 := Lib.hid hb9; clear ha9 hb9
  have HB := Lib.hid (Below.refl w.heap.size w)
  go_enter Tryz.func79, Tryz.ntmps79
  go_wp2_with fail
  go_loopw [13] (fun i wr => ∃ k r : Nat, i = .int .i64 (k : Int) ∧ Hid (k + r = l.length) ∧ Hid (Below w.heap.size w wr)) (fun i _ => l.length - (intOf i).toNat)
  case atStart => exact ⟨0, l.length, rfl, Lib.hid (by omega), HB⟩
  case round =>
    obtain ⟨k, r, rfl, hkr, HB2⟩ := hrel
    clear HB
    have HB := HB2; clear HB2
    cases r with
    | zero =>
      have hlt : ¬ (k : Int) < (l.length : Int) := by have := hkr.out; omega
      go_wp2
      go_ret
      exact ⟨rfl, HB.out⟩
    | succ r =>
      have hkl : k < l.length := by have := hkr.out; omega
      have hlt : (k : Int) < (l.length : Int) := by omega
      have hun : IntKind.i64.wrap ((k : Int) + 1) = (k : Int) + 1 := IntWalk.i64_in _ (by omega)
      obtain ⟨b1, o1, rfl, hb1, h1⟩ := ha1.out (fun h => by subst h; simp at hkl)
      obtain ⟨b2, o2, rfl, hb2, h2⟩ := ha2.out (fun h => by subst h; simp at hkl)
      replace h1 : PtC w b1 o1 l := h1
      replace h2 : PtC w b2 o2 l := h2
      have HC1 := Lib.hid h1; have HC2 := Lib.hid h2; clear h1 h2
      have hbr1 : b1 < wr.heap.size := by have := HB.out.size; omega
      have hbr2 : b2 < wr.heap.size := by have := HB.out.size; omega
      have hn := fun W => neq_src W (pX l k) (pY l k) (pX l k) (pY l k)
      rw [show (!((pX l k == pX l k) && (pY l k == pY l k))) = false by simp] at hn
      go_wp2_with fail
      have r11 := fun p : BelowOf _ => ((HC1.out.below (bch' HB.out p.h) hb1) k hkl).1
      have r12 := fun p : BelowOf _ => ((HC1.out.below (bch' HB.out p.h) hb1) k hkl).2
      have r21 := fun p : BelowOf _ => ((HC2.out.below (bch' HB.out p.h) hb2) k hkl).1
      have r22 := fun p : BelowOf _ => ((HC2.out.below (bch' HB.out p.h) hb2) k hkl).2
      refine wp_region_WQ (by kernel_rfl) (by kernel_rfl) ?_
      repeat (refine WQ.step (fun K hK => ?_); go_simp; first | (refine hK.out _ ?_; clear hK K) | (apply Exists.intro; refine ⟨fun _ => ?_, hK.out _ ?_⟩; (first | rfl); clear hK K))
      refine WQ.nil ?_
      intro _ hw'
      obtain ⟨⟨wq, hbq⟩, hw2⟩ := hw'
      subst hw2
      replace HB := Lib.hid (bch' HB.out hbq)
      clear r11 r12 r21 r22
      go_wp2_with fail
      go_roundw
      case rel => exact ⟨k + 1, r, by first | rfl | simp, Lib.hid (by have := hkr.out; omega), HB⟩
      case measure => first | (simp [intOf]; done) | (simp [intOf]; omega)

set_option maxRecDepth 100000 in
set_option maxHeartbeats 8000000 in
theorem l30_awake (w : World) (env : Env w) :
    Calls Tryz.prog 18 #[] w fun e w' => e = .returned (.bool (true)) ∧ Below w.heap.size w w' := by
  have ENV := Lib.hid env; clear env
  have HB := Lib.hid (Below.refl w.heap.size w)
  have hat := fun n v W => l30_at n v W
  have HAT := Lib.hid hat; clear hat
  go_enter Tryz.func18, Tryz.ntmps18
  go_wp2_with fail
  refine ((l30_house (.slice none 0 0) [] _ (fds_nil _)).mono ?_)
  rintro e w1 ⟨sv1, rfl, hs1, hb⟩
  have HS1 := Lib.hid hs1; clear hs1
  replace HB := Lib.hid (bch' HB.out hb); clear hb
  go_wp2_with fail
  refine ((own_mfactor_ok 65535 0 0 false [54, 53, 53, 51, 53] sv1 (.slice none 0 0) houseL [] 1 0 _ HS1.out (fds_nil _) (by decide) (fdN_len (.inl rfl)) (by decide +kernel) (ENV.out.below HB.out)).mono ?_)
  rw [show showR (facQ (mainQ [54, 53, 53, 51, 53] 65535 0 0 false 0) houseL [] 1 0 houseL.length) = [49] by decide +kernel]
  rintro e w2 ⟨rfl, hb⟩
  replace HB := Lib.hid (bch' HB.out hb); clear hb
  go_wp2_with fail
  refine ((HAT.out 6 0 _).mono ?_)
  rintro e w3 ⟨rfl, hb⟩
  replace HB := Lib.hid (bch' HB.out hb); clear hb
  replace HB := Lib.hid (HB.out.alloc HB.out.size (.cells #[.int .i64 6, .string ⟨#[48]⟩, .int .i64 0, .int .i64 0, .int .i64 0, .int .i64 0] 108))
  have HF3 := Lib.hid (fds_one (Blk.new w3 108 #[.int .i64 6, .string ⟨#[48]⟩, .int .i64 0, .int .i64 0, .int .i64 0, .int .i64 0]))
  go_wp2_with fail
  generalize w3.alloc (.cells #[.int .i64 6, .string ⟨#[48]⟩, .int .i64 0, .int .i64 0, .int .i64 0, .int .i64 0] 108) = W3 at *
  refine ((l30_house (.slice (some ⟨w3.heap.size, 0, none⟩) 1 1) [fdN 6 0] _ (HF3.out)).mono ?_)
  rintro e w4 ⟨sv4, rfl, hs4, hb⟩
  have HS4 := Lib.hid hs4; clear hs4
  replace HF3 := Lib.hid (FdsAt.kept HF3.out hb)
  replace HB := Lib.hid (bch' HB.out hb); clear hb
  go_wp2_with fail
  refine ((own_mfactor_ok 65535 0 0 false [54, 53, 53, 51, 53] sv4 (.slice (some ⟨w3.heap.size, 0, none⟩) 1 1) houseL [fdN 6 0] 2 0 _ HS4.out (HF3.out) (by decide) (fdN_len (.inr (.inl ⟨_, _, rfl⟩))) (by decide +kernel) (ENV.out.below HB.out)).mono ?_)
  rw [show showR (facQ (mainQ [54, 53, 53, 51, 53] 65535 0 0 false 0) houseL [fdN 6 0] 2 0 houseL.length) = [52, 47, 53] by decide +kernel]
  rintro e w5 ⟨rfl, hb⟩
  replace HB := Lib.hid (bch' HB.out hb); clear hb
  go_wp2_with fail
  refine ((HAT.out 4 13107 _).mono ?_)
  rintro e w6 ⟨rfl, hb⟩
  replace HB := Lib.hid (bch' HB.out hb); clear hb
  go_wp2_with fail
  refine ((HAT.out 6 0 _).mono ?_)
  rintro e w7 ⟨rfl, hb⟩
  replace HB := Lib.hid (bch' HB.out hb); clear hb
  replace HB := Lib.hid (HB.out.alloc HB.out.size (.cells #[.int .i64 4, .string ⟨#[48]⟩, .int .i64 13107, .int .i64 0, .int .i64 0, .int .i64 0, .int .i64 6, .string ⟨#[48]⟩, .int .i64 0, .int .i64 0, .int .i64 0, .int .i64 0] 108))
  have HF7 := Lib.hid (fds_two (Blk.new w7 108 #[.int .i64 4, .string ⟨#[48]⟩, .int .i64 13107, .int .i64 0, .int .i64 0, .int .i64 0, .int .i64 6, .string ⟨#[48]⟩, .int .i64 0, .int .i64 0, .int .i64 0, .int .i64 0]))
  go_wp2_with fail
  generalize w7.alloc (.cells #[.int .i64 4, .string ⟨#[48]⟩, .int .i64 13107, .int .i64 0, .int .i64 0, .int .i64 0, .int .i64 6, .string ⟨#[48]⟩, .int .i64 0, .int .i64 0, .int .i64 0, .int .i64 0] 108) = W7 at *
  refine ((l30_house (.slice (some ⟨w7.heap.size, 0, none⟩) 2 2) [fdN 4 13107, fdN 6 0] _ (HF7.out)).mono ?_)
  rintro e w8 ⟨sv8, rfl, hs8, hb⟩
  have HS8 := Lib.hid hs8; clear hs8
  replace HF7 := Lib.hid (FdsAt.kept HF7.out hb)
  replace HB := Lib.hid (bch' HB.out hb); clear hb
  go_wp2_with fail
  refine ((own_mfactor_ok 65535 0 0 false [54, 53, 53, 51, 53] sv8 (.slice (some ⟨w7.heap.size, 0, none⟩) 2 2) houseL [fdN 4 13107, fdN 6 0] 1 0 _ HS8.out (HF7.out) (by decide) (fdN_len (.inr (.inr ⟨_, _, _, _, rfl⟩))) (by decide +kernel) (ENV.out.below HB.out)).mono ?_)
  rw [show showR (facQ (mainQ [54, 53, 53, 51, 53] 65535 0 0 false 0) houseL [fdN 4 13107, fdN 6 0] 1 0 houseL.length) = [52, 47, 50, 53] by decide +kernel]
  rintro e w9 ⟨rfl, hb⟩
  replace HB := Lib.hid (bch' HB.out hb); clear hb
  go_wp2_with fail
  refine ((l30_house (.slice none 0 0) [] _ (fds_nil _)).mono ?_)
  rintro e w10 ⟨sv10, rfl, hs10, hb⟩
  have HS10 := Lib.hid hs10; clear hs10
  replace HB := Lib.hid (bch' HB.out hb); clear hb
  go_wp2_with fail
  refine ((own_msources_ok 65535 0 0 false [54, 53, 53, 51, 53] sv10 (.slice none 0 0) houseL [] 1 _ HS10.out (fds_nil _) (by decide) (fdN_len (.inl rfl)) (by decide +kernel) (ENV.out.below HB.out)).mono ?_)
  rintro e w11 ⟨pp, cc, rfl, hpt, hb⟩
  rw [show srcL false houseL 1 = [(5, 0), (7, 4), (7, 6)] by decide +kernel] at hpt ⊢
  have HPT := Lib.hid hpt; clear hpt
  replace HB := Lib.hid (bch' HB.out hb); clear hb
  go_wp2_with fail
  refine ((l30_house (.slice none 0 0) [] _ (fds_nil _)).mono ?_)
  rintro e w12 ⟨sv12, rfl, hs12, hb⟩
  have HS12 := Lib.hid hs12; clear hs12
  replace HPT := Lib.hid (PtsAt.below HPT.out hb)
  replace HB := Lib.hid (bch' HB.out hb); clear hb
  obtain ⟨p5, c5, rfl⟩ : ∃ p5 c5, sv12 = .slice p5 2 c5 := by obtain ⟨a, b, e, -⟩ := HS12.out; exact ⟨a, b, e⟩
  go_wp2_with fail
  have hal := (Below.refl w12.heap.size w12).alloc (Nat.le_refl _) (.cells #[.string ⟨#[48]⟩, .int .i64 65535, .int .i64 1000, .int .i64 2000, .bool false, .slice p5 2 c5, .slice none 0 0] 28)
  replace HS12 := Lib.hid (SbsAt.kept HS12.out hal)
  replace HPT := Lib.hid (PtsAt.below HPT.out hal)
  replace HB := Lib.hid (bch' HB.out hal)
  clear hal
  refine ((own_mgrand_ok 65535 1000 2000 false [48] (.slice p5 2 c5) (.slice none 0 0) houseL [] 1500 _ HS12.out (fds_nil _) (by decide) (fdN_len (.inl rfl)) (by decide +kernel) (ENV.out.below HB.out)).mono ?_)
  rw [show showR (mainQ [48] 65535 1000 2000 false 1500) = [49, 47, 52] by decide +kernel]
  rintro e w13 ⟨rfl, hb⟩
  replace HPT := Lib.hid (PtsAt.below HPT.out hb)
  replace HB := Lib.hid (bch' HB.out hb); clear hb
  go_wp2_with fail
  refine ((own_mapply 0 [52, 48, 48, 48, 48] [49, 47, 52] 6 6 _ (by decide) (by decide) (fun q h => fits_of_len (k := 5) (by rw [← h]; decide)) (fun q h => fits_of_len (k := 5) (by rw [← h]; decide)) (by omega) (ENV.out.below HB.out)).mono ?_)
  rw [show apT [52, 48, 48, 48, 48] [49, 47, 52] 0 = ([49, 48, 48, 48, 48], 0) by decide +kernel]
  rintro e w14 ⟨rfl, hb⟩
  replace HPT := Lib.hid (PtsAt.below HPT.out hb)
  replace HB := Lib.hid (bch' HB.out hb); clear hb
  go_wp2_with fail
  refine ((own_mapply 1 [52, 48, 48, 48, 48] [49, 47, 52] 6 6 _ (by decide) (by decide) (fun q h => fits_of_len (k := 5) (by rw [← h]; decide)) (fun q h => fits_of_len (k := 5) (by rw [← h]; decide)) (by omega) (ENV.out.below HB.out)).mono ?_)
  rw [show apT [52, 48, 48, 48, 48] [49, 47, 52] 1 = ([52, 48, 48, 48, 48], 0) by decide +kernel]
  rintro e w15 ⟨rfl, hb⟩
  replace HPT := Lib.hid (PtsAt.below HPT.out hb)
  replace HB := Lib.hid (bch' HB.out hb); clear hb
  go_wp2_with fail
  have hal := (Below.refl w15.heap.size w15).alloc (Nat.le_refl _) (.cells #[.int .i64 5, .int .i64 0, .int .i64 7, .int .i64 4, .int .i64 7, .int .i64 6] 43)
  refine ((src_eq _ [(5, 0), (7, 4), (7, 6)] _ _ (PtsAt.below HPT.out hal) (pts_three w15 5 0 7 4 7 6 _) (by decide)).mono ?_)
  rintro e w16 ⟨rfl, hb⟩
  replace HB := Lib.hid (bch' (bch' HB.out hal) hb); clear hb hal
  go_wp2_with fail
  go_ret
  exact ⟨rfl, HB.out⟩
end Go.Proofs.YtkjelfmgnkkijaaGreatDoor
