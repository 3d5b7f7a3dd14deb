/-
  Masters: Without of the program.
-/
import Derived.Test.YtkjelfmgnkkijaaGreatDoorQmGa
import Derived.Test.YtkjelfmgnkkijaaGreatDoorQmMv
set_option linter.unusedVariables false
set_option linter.unusedSimpArgs false
namespace Lum
open Go Go.RowKit Go.Shelf
open Go.Lib (decDigits itoa)
theorem OwnR.far {β : Type} {enc : β → List Value} {k base : Nat} {e : TypeId} {W W' : World} {p : Option Addr} {c : Nat} {l : List β} (h : OwnR enc k base e W p c l) (hk : ∀ g, base ≤ g → W'.heap[g]? = W.heap[g]?) : OwnR enc k base e W' p c l := by
  obtain ⟨h1, h2⟩ := h
  refine ⟨h1, ?_⟩
  rcases h2 with h2 | ⟨g, cap, cur, hv, hg, hh, r⟩
  · exact .inl h2
  · exact .inr ⟨g, cap, cur, hv, hg, by rw [hk g hg]; exact hh, r⟩
theorem far_set {B : Nat} {w w' : World} (h : ∀ g, B ≤ g → w'.heap[g]? = w.heap[g]?) {p : Addr} (hp : p.block < B) (u : Value) : ∀ g, B ≤ g → (w'.setCell p u).heap[g]? = w.heap[g]? := fun g hg =>
  (Below.heap_setCell w' p u g (by omega)).trans (h g hg)
theorem far_set7 {B : Nat} {w w' : World} (h : ∀ g, B ≤ g → w'.heap[g]? = w.heap[g]?) {n : Nat} (hn : n < B) (b0 b1 b2 b3 b4 b5 b6 : Value) : ∀ g, B ≤ g → ((((((((w'.setCell ⟨n, 0, none⟩ b0).setCell ⟨n, 1, none⟩ b1).setCell ⟨n, 2, none⟩ b2).setCell ⟨n, 3, none⟩ b3).setCell ⟨n, 4, none⟩ b4).setCell ⟨n, 5, none⟩ b5).setCell ⟨n, 6, none⟩ b6)).heap[g]? = w.heap[g]? :=
  far_set (far_set (far_set (far_set (far_set (far_set (far_set h hn b0) hn b1) hn b2) hn b3) hn b4) hn b5) hn b6
/-- The error of masters without a source. -/
def wfE (fr : Txt) (tz st ti : Int) (su : List Sb) (fd : List Fdr) (k n : Int) : Int := if maE fr tz st ti su fd ≠ 0 then maE fr tz st ti su fd else woE k n su
theorem freeP_ne {n : Int} {s : Sb} (h : ¬ s.nu = n) : freeP n s = true := by unfold freeP; simp [h]
theorem freeP_eq {n : Int} {s : Sb} (h : s.nu = n) : freeP n s = !s.inh := by unfold freeP; simp [h]
theorem free_succ {su : List Sb} {k : Nat} (n : Int) (h : k < su.length) : freeL (su.take (k + 1)) n = freeL (su.take k) n ++ (if freeP n (sbv su k) then [sbv su k] else []) := filt_succ (freeP n) h
theorem free_few {su : List Sb} {k : Nat} (n : Int) (h : su.length ≤ 16) : (freeL (su.take k) n).length ≤ 16 := by unfold freeL; exact Nat.le_trans (List.length_filter_le _ _) (by rw [List.length_take]; omega)
theorem maps_len {L : List (Sb × Value)} {l : List Sb} (h : L.map (·.1) = l) : L.length = l.length := by rw [← h, List.length_map]
/-- The gains' slices of the elements read as their gains. -/
def HasG (W : World) (L : List (Sb × Value)) : Prop := ∀ x ∈ L, GnsAt W x.2 x.1.gs
theorem OwnR.base {β : Type} {enc : β → List Value} {k base b2 : Nat} {e : TypeId} {W : World} {p : Option Addr} {c : Nat} {l : List β} (h : OwnR enc k base e W p c l) (hb : b2 ≤ base) : OwnR enc k b2 e W p c l := by
  obtain ⟨h1, h2⟩ := h
  refine ⟨h1, ?_⟩
  rcases h2 with h2 | ⟨g, cap, cur, hv, hg, r⟩
  · exact .inl h2
  · exact .inr ⟨g, cap, cur, hv, Nat.le_trans hb hg, r⟩
theorem woE_cases {k n : Int} {su : List Sb} (h : woE k n su = 0) : (k = 5 ∧ n = 0) ∨ (k = 6 ∧ n = 0) ∨ (k = 7 ∧ hasI su n = true) := by
  unfold woE at h
  by_cases c : k = 5 ∨ k = 6
  · rw [if_pos c] at h
    by_cases e : n = 0
    · rcases c with c | c
      · exact .inl ⟨c, e⟩
      · exact .inr (.inl ⟨c, e⟩)
    · rw [if_pos e] at h; cases h
  · rw [if_neg c] at h
    by_cases c7 : k = 7
    · rw [if_pos c7] at h
      cases g : hasI su n
      · rw [g] at h; simp at h
      · exact .inr (.inr ⟨c7, rfl⟩)
    · rw [if_neg c7] at h; cases h
theorem aBl_five (bl : Bool) : aBl [(5, 0)] bl = bl := by cases bl <;> rfl
theorem aBl_six (bl : Bool) : aBl [(6, 0)] bl = false := by cases bl <;> rfl
theorem aBl_seven (n : Int) (bl : Bool) : aBl [(7, n)] bl = bl := by cases bl <;> rfl

/-- The cells of a table; the slices of its gains read as they did in an older world. -/
def SbsD (w0 W : World) (b o : Nat) (l : List Sb) : Prop := ∀ i, i < l.length → W.cell? ⟨b, o + i * 4, none⟩ = some (.int .i64 (sbv l i).nu) ∧ W.cell? ⟨b, o + i * 4 + 1, none⟩ = some (.int .i64 (sbv l i).pr) ∧ W.cell? ⟨b, o + i * 4 + 2, none⟩ = some (.bool (sbv l i).inh) ∧
  ∃ gv, W.cell? ⟨b, o + i * 4 + 3, none⟩ = some gv ∧ GnsAt w0 gv (sbv l i).gs
theorem SbsD.of_heap {w0 W W' : World} {b o : Nat} {l : List Sb} (h : SbsD w0 W b o l) (e : W'.heap[b]? = W.heap[b]?) : SbsD w0 W' b o l := fun i hi => by
  obtain ⟨h1, h2, h3, gv, h4, h5⟩ := h i hi
  have k := fun j => World.cell?_of_block (w := W) (w' := W') (a := ⟨b, j, none⟩) e
  exact ⟨(k _).trans h1, (k _).trans h2, (k _).trans h3, gv, (k _).trans h4, h5⟩
theorem SbsD.below {w0 W W' : World} {b o : Nat} {l : List Sb} (h : SbsD w0 W b o l) (hb : Below W.heap.size W W') (hl : b < W.heap.size) : SbsD w0 W' b o l := h.of_heap (hb.block b hl)
/-- A table whose cells lie in a block that is not B. -/
def SbsX (B : Nat) (w0 W : World) (v : Value) (l : List Sb) : Prop := ∃ p c, v = .slice p l.length c ∧ l.length ≤ c ∧ (l ≠ [] → ∃ b o, p = some ⟨b, o, none⟩ ∧ b < W.heap.size ∧ b ≠ B ∧ SbsD w0 W b o l)
theorem SbsX.far {B : Nat} {w0 W W' : World} {v : Value} {l : List Sb} (h : SbsX B w0 W v l) (hs : W.heap.size ≤ W'.heap.size) (hk : ∀ g, g ≠ B → g < W.heap.size → W'.heap[g]? = W.heap[g]?) : SbsX B w0 W' v l := by
  obtain ⟨p, c, h1, h2, h3⟩ := h
  refine ⟨p, c, h1, h2, fun hn => ?_⟩
  obtain ⟨b, o, k1, k2, k3, k4⟩ := h3 hn
  exact ⟨b, o, k1, Nat.lt_of_lt_of_le k2 hs, k3, k4.of_heap (hk b k3 k2)⟩
theorem SbsX.keep {B : Nat} {w0 W W' : World} {v : Value} {l : List Sb} (h : SbsX B w0 W v l) (hb : Below W.heap.size W W') : SbsX B w0 W' v l := h.far hb.size fun g _ hg => hb.block g hg
theorem SbsX.at_ {B : Nat} {w0 W : World} {v : Value} {l : List Sb} (h : SbsX B w0 W v l) (hb : Below w0.heap.size w0 W) : SbsAt W v l := by
  obtain ⟨p, c, h1, h2, h3⟩ := h
  refine ⟨p, c, h1, h2, fun hn => ?_⟩
  obtain ⟨b, o, k1, k2, -, k4⟩ := h3 hn
  refine ⟨b, o, k1, k2, fun i hi => ?_⟩
  obtain ⟨a1, a2, a3, gv, a4, a5⟩ := k4 i hi
  exact ⟨a1, a2, a3, gv, a4, a5.kept hb⟩
theorem SbsX.start {B : Nat} {w0 W : World} {v : Value} {l : List Sb} (h : SbsAt w0 v l) (hb : Below w0.heap.size w0 W) (hB : w0.heap.size ≤ B) : SbsX B w0 W v l := by
  obtain ⟨p, c, h1, h2, h3⟩ := h
  refine ⟨p, c, h1, h2, fun hn => ?_⟩
  obtain ⟨b, o, k1, k2, k4⟩ := h3 hn
  refine ⟨b, o, k1, Nat.lt_of_lt_of_le k2 hb.size, by omega, ?_⟩
  have : SbsD w0 w0 b o l := fun i hi => k4 i hi
  exact this.below hb k2
theorem SbsX.own {B base : Nat} {w0 W : World} {p : Option Addr} {c : Nat} {L : List (Sb × Value)} {l : List Sb} {e : TypeId} (h : OwnR encS 4 base e W p c L) (hg : HasG w0 L) (hl : L.map (·.1) = l) (hB : B < base) : SbsX B w0 W (.slice p l.length c) l := by
  subst hl
  rw [List.length_map]
  refine ⟨p, c, by rw [List.length_map], by rw [List.length_map]; exact h.cap, fun hn => ?_⟩
  have hne : L ≠ [] := fun e => hn (by rw [e]; rfl)
  obtain ⟨b, hp, hb, hc⟩ := h.at_ encS_len hne
  have hbb := (h.lt _ hp).1
  refine ⟨b, 0, hp, hb, by have : base ≤ b := hbb; omega, fun i hi => ?_⟩
  have hi2 : i < L.length := by simpa using hi
  have hs : sbv (L.map (·.1)) i = (L[i]'hi2).1 := by rw [← sbv_at hi]; simp
  rw [hs]
  have hx := hc i hi2
  exact ⟨hx 0 _ rfl, hx 1 _ rfl, hx 2 _ rfl, (L[i]'hi2).2, hx 3 _ rfl, hg _ (List.getElem_mem hi2)⟩
end Lum
namespace Go.Proofs.YtkjelfmgnkkijaaGreatDoor
open Go.RowKit Go.Shelf Lum
open Go.Lib (decDigits itoa)
attribute [local go_sem] bs_get bs_extract_end bs_extract_from bs_extract bs_append

set_option maxRecDepth 100000 in
set_option maxHeartbeats 4000000 in
theorem own_mwo_five (tz st ti : Int) (bl : Bool) (fr : Txt) (sv fv : Value) (su : List Sb) (fd : List Fdr) (w : World) (hs : SbsAt w sv su) (hf : FdsAt w fv fd) (hx : fr.length ≤ 60) (hl : ∀ i, i < fd.length → (fdv fd i).fr.length ≤ 60) (h0 : maE fr tz st ti su fd = 0) (env : Env w) :
    Calls Tryz.prog 22 #[.agg #[.string ⟨(fr).toArray⟩, .int .i64 tz, .int .i64 st, .int .i64 ti, .bool (bl), sv, fv], .agg #[.int .i64 5, .int .i64 0]] w fun e w' => e = .returned (.tuple #[.agg #[.string ⟨#[54, 53, 53, 51, 53]⟩, .int .i64 65535, .int .i64 0, .int .i64 0, .bool (bl), sv, fv], .int .i64 0]) ∧ Below w.heap.size w w' := by
  obtain ⟨ps, zs, rfl⟩ : ∃ ps zs, sv = .slice ps su.length zs := by obtain ⟨a, b, e, -⟩ := hs; exact ⟨a, b, e⟩
  obtain ⟨pf, zf, rfl⟩ : ∃ pf zf, fv = .slice pf fd.length zf := by obtain ⟨a, b, e, -⟩ := hf; exact ⟨a, b, e⟩
  have ENV := Lib.hid env; clear env
  have hal := ((((Below.refl w.heap.size w).alloc (Nat.le_refl _) (.cells #[.string ⟨(fr).toArray⟩, .int .i64 tz, .int .i64 st, .int .i64 ti, .bool (bl), (.slice ps su.length zs), (.slice pf fd.length zf)] 28)).alloc (by simp) (.cells #[.int .i64 5, .int .i64 0] 43)).alloc (by rw [World.size_alloc, World.size_alloc]; omega) (.cells #[.string ⟨#[]⟩, .int .i64 0, .int .i64 0, .int .i64 0, .bool false, .slice none 0 0, .slice none 0 0] 28))
  have HB := Lib.hid hal
  have hk := ((Blk.new (w) 28 #[.string ⟨(fr).toArray⟩, .int .i64 tz, .int .i64 st, .int .i64 ti, .bool (bl), (.slice ps su.length zs), (.slice pf fd.length zf)]).alloc (.cells #[.int .i64 5, .int .i64 0] 43)).alloc (.cells #[.string ⟨#[]⟩, .int .i64 0, .int .i64 0, .int .i64 0, .bool false, .slice none 0 0, .slice none 0 0] 28)
  have HK := Lib.hid hk; clear hk
  have hx := (Blk.new (w.alloc (.cells #[.string ⟨(fr).toArray⟩, .int .i64 tz, .int .i64 st, .int .i64 ti, .bool (bl), (.slice ps su.length zs), (.slice pf fd.length zf)] 28)) 43 #[.int .i64 5, .int .i64 0]).alloc (.cells #[.string ⟨#[]⟩, .int .i64 0, .int .i64 0, .int .i64 0, .bool false, .slice none 0 0, .slice none 0 0] 28)
  simp only [World.size_alloc] at hx
  have HX := Lib.hid hx; clear hx
  have hr := Blk.new ((w.alloc (.cells #[.string ⟨(fr).toArray⟩, .int .i64 tz, .int .i64 st, .int .i64 ti, .bool (bl), (.slice ps su.length zs), (.slice pf fd.length zf)] 28)).alloc (.cells #[.int .i64 5, .int .i64 0] 43)) 28 #[.string ⟨#[]⟩, .int .i64 0, .int .i64 0, .int .i64 0, .bool false, .slice none 0 0, .slice none 0 0]
  simp only [World.size_alloc] at hr
  have HR := Lib.hid hr; clear hr
  obtain ⟨k0, k1, k2, k3, k4, k5, k6, kf0, kf1, kf2, kf3, kf4, kf5, kf6⟩ := HK.out.c7
  obtain ⟨x0, x1, xf0, xf1⟩ := HX.out.c2
  obtain ⟨r0, r1, r2, r3, r4, r5, r6, rf0, rf1, rf2, rf3, rf4, rf5, rf6⟩ := HR.out.c7
  have HS := Lib.hid (SbsAt.kept hs hal)
  have HF := Lib.hid (FdsAt.kept hf hal)
  clear hs hf hal
  have hc := fun W (h1 : SbsAt W (.slice ps su.length zs) su) (h2 : FdsAt W (.slice pf fd.length zf) fd) (e : Env W) => own_mcheck tz st ti bl fr (.slice ps su.length zs) (.slice pf fd.length zf) su fd W h1 h2 (by omega) (fun i hi => Nat.le_trans (hl i hi) (by omega)) e
  have hfu := fun W (e : Env W) => own_gfull W e
  rw [h0] at hc
  clear hl h0
  have HC := Lib.hid hc; clear hc
  have HFU := Lib.hid hfu; clear hfu
  go_enter Tryz.func22, Tryz.ntmps22
  go_upto_region 12 with (first | (with_reducible refine ((HC.out _ HS.out HF.out (ENV.out.below HB.out)).mono ?_); rintro e w' ⟨rfl, hb⟩; replace HK := Lib.hid (HK.out.keep hb); clear k0 k1 k2 k3 k4 k5 k6 kf0 kf1 kf2 kf3 kf4 kf5 kf6; replace HX := Lib.hid (HX.out.keep hb); clear x0 x1 xf0 xf1; replace HR := Lib.hid (HR.out.keep hb); clear r0 r1 r2 r3 r4 r5 r6 rf0 rf1 rf2 rf3 rf4 rf5 rf6; replace HS := Lib.hid (SbsAt.kept HS.out hb); replace HF := Lib.hid (FdsAt.kept HF.out hb); replace HB := Lib.hid (bch' HB.out hb); clear hb; obtain ⟨k0, k1, k2, k3, k4, k5, k6, kf0, kf1, kf2, kf3, kf4, kf5, kf6⟩ := HK.out.c7; obtain ⟨x0, x1, xf0, xf1⟩ := HX.out.c2; obtain ⟨r0, r1, r2, r3, r4, r5, r6, rf0, rf1, rf2, rf3, rf4, rf5, rf6⟩ := HR.out.c7) | (with_reducible refine ((HFU.out _ (ENV.out.below HB.out)).mono ?_); rintro e w' ⟨rfl, hb⟩; replace HK := Lib.hid (HK.out.keep hb); clear k0 k1 k2 k3 k4 k5 k6 kf0 kf1 kf2 kf3 kf4 kf5 kf6; replace HX := Lib.hid (HX.out.keep hb); clear x0 x1 xf0 xf1; replace HR := Lib.hid (HR.out.keep hb); clear r0 r1 r2 r3 r4 r5 r6 rf0 rf1 rf2 rf3 rf4 rf5 rf6; replace HS := Lib.hid (SbsAt.kept HS.out hb); replace HF := Lib.hid (FdsAt.kept HF.out hb); replace HB := Lib.hid (bch' HB.out hb); clear hb; obtain ⟨k0, k1, k2, k3, k4, k5, k6, kf0, kf1, kf2, kf3, kf4, kf5, kf6⟩ := HK.out.c7; obtain ⟨x0, x1, xf0, xf1⟩ := HX.out.c2; obtain ⟨r0, r1, r2, r3, r4, r5, r6, rf0, rf1, rf2, rf3, rf4, rf5, rf6⟩ := HR.out.c7))
  have HK2 := Lib.hid (HK.out.gl7 (.string ⟨#[54, 53, 53, 51, 53]⟩) (.int .i64 65535) (.int .i64 0) (.int .i64 0))
  have HR2 := Lib.hid (Blk.far4 HR.out (show w.heap.size + 1 + 1 ≠ w.heap.size by omega) (.string ⟨#[54, 53, 53, 51, 53]⟩) (.int .i64 65535) (.int .i64 0) (.int .i64 0))
  have HB2 := Lib.hid (bset4 HB.out (Nat.le_refl _) (.string ⟨#[54, 53, 53, 51, 53]⟩) (.int .i64 65535) (.int .i64 0) (.int .i64 0))
  clear k0 k1 k2 k3 k4 k5 k6 kf0 kf1 kf2 kf3 kf4 kf5 kf6; clear x0 x1 xf0 xf1; clear r0 r1 r2 r3 r4 r5 r6 rf0 rf1 rf2 rf3 rf4 rf5 rf6
  clear HK HR HB HX HS HF
  generalize ((((w'.setCell ⟨w.heap.size, 0, none⟩ (.string ⟨#[54, 53, 53, 51, 53]⟩)).setCell ⟨w.heap.size, 1, none⟩ (.int .i64 65535)).setCell ⟨w.heap.size, 2, none⟩ (.int .i64 0)).setCell ⟨w.heap.size, 3, none⟩ (.int .i64 0)) = w6 at *
  have HK := HK2; have HR := HR2; have HB := HB2; clear HK2 HR2 HB2
  obtain ⟨k0, k1, k2, k3, k4, k5, k6, kf0, kf1, kf2, kf3, kf4, kf5, kf6⟩ := HK.out.c7
  obtain ⟨r0, r1, r2, r3, r4, r5, r6, rf0, rf1, rf2, rf3, rf4, rf5, rf6⟩ := HR.out.c7
  go_wp2_with fail
  refine bodyPost_ret_by (v := .tuple #[.agg #[.string ⟨#[54, 53, 53, 51, 53]⟩, .int .i64 65535, .int .i64 0, .int .i64 0, .bool (bl), (.slice ps su.length zs), (.slice pf fd.length zf)], .int .i64 0]) (by simp [results, Tryz.f22, go_sem, r0, r1, r2, r3, r4, r5, r6, rf0, rf1, rf2, rf3, rf4, rf5, rf6]) rfl ⟨rfl, ?_⟩
  exact (((((((HB.out.setCell (show w.heap.size ≤ w.heap.size + 1 + 1 by omega) _).setCell (show w.heap.size ≤ w.heap.size + 1 + 1 by omega) _).setCell (show w.heap.size ≤ w.heap.size + 1 + 1 by omega) _).setCell (show w.heap.size ≤ w.heap.size + 1 + 1 by omega) _).setCell (show w.heap.size ≤ w.heap.size + 1 + 1 by omega) _).setCell (show w.heap.size ≤ w.heap.size + 1 + 1 by omega) _).setCell (show w.heap.size ≤ w.heap.size + 1 + 1 by omega) _)

set_option maxRecDepth 100000 in
set_option maxHeartbeats 4000000 in
theorem own_mwo_six (tz st ti : Int) (bl : Bool) (fr : Txt) (sv fv : Value) (su : List Sb) (fd : List Fdr) (w : World) (hs : SbsAt w sv su) (hf : FdsAt w fv fd) (hx : fr.length ≤ 60) (hl : ∀ i, i < fd.length → (fdv fd i).fr.length ≤ 60) (h0 : maE fr tz st ti su fd = 0) (env : Env w) :
    Calls Tryz.prog 22 #[.agg #[.string ⟨(fr).toArray⟩, .int .i64 tz, .int .i64 st, .int .i64 ti, .bool (bl), sv, fv], .agg #[.int .i64 6, .int .i64 0]] w fun e w' => e = .returned (.tuple #[.agg #[.string ⟨(fr).toArray⟩, .int .i64 tz, .int .i64 st, .int .i64 ti, .bool false, sv, fv], .int .i64 0]) ∧ Below w.heap.size w w' := by
  obtain ⟨ps, zs, rfl⟩ : ∃ ps zs, sv = .slice ps su.length zs := by obtain ⟨a, b, e, -⟩ := hs; exact ⟨a, b, e⟩
  obtain ⟨pf, zf, rfl⟩ : ∃ pf zf, fv = .slice pf fd.length zf := by obtain ⟨a, b, e, -⟩ := hf; exact ⟨a, b, e⟩
  have ENV := Lib.hid env; clear env
  have hal := ((((Below.refl w.heap.size w).alloc (Nat.le_refl _) (.cells #[.string ⟨(fr).toArray⟩, .int .i64 tz, .int .i64 st, .int .i64 ti, .bool (bl), (.slice ps su.length zs), (.slice pf fd.length zf)] 28)).alloc (by simp) (.cells #[.int .i64 6, .int .i64 0] 43)).alloc (by rw [World.size_alloc, World.size_alloc]; omega) (.cells #[.string ⟨#[]⟩, .int .i64 0, .int .i64 0, .int .i64 0, .bool false, .slice none 0 0, .slice none 0 0] 28))
  have HB := Lib.hid hal
  have hk := ((Blk.new (w) 28 #[.string ⟨(fr).toArray⟩, .int .i64 tz, .int .i64 st, .int .i64 ti, .bool (bl), (.slice ps su.length zs), (.slice pf fd.length zf)]).alloc (.cells #[.int .i64 6, .int .i64 0] 43)).alloc (.cells #[.string ⟨#[]⟩, .int .i64 0, .int .i64 0, .int .i64 0, .bool false, .slice none 0 0, .slice none 0 0] 28)
  have HK := Lib.hid hk; clear hk
  have hx := (Blk.new (w.alloc (.cells #[.string ⟨(fr).toArray⟩, .int .i64 tz, .int .i64 st, .int .i64 ti, .bool (bl), (.slice ps su.length zs), (.slice pf fd.length zf)] 28)) 43 #[.int .i64 6, .int .i64 0]).alloc (.cells #[.string ⟨#[]⟩, .int .i64 0, .int .i64 0, .int .i64 0, .bool false, .slice none 0 0, .slice none 0 0] 28)
  simp only [World.size_alloc] at hx
  have HX := Lib.hid hx; clear hx
  have hr := Blk.new ((w.alloc (.cells #[.string ⟨(fr).toArray⟩, .int .i64 tz, .int .i64 st, .int .i64 ti, .bool (bl), (.slice ps su.length zs), (.slice pf fd.length zf)] 28)).alloc (.cells #[.int .i64 6, .int .i64 0] 43)) 28 #[.string ⟨#[]⟩, .int .i64 0, .int .i64 0, .int .i64 0, .bool false, .slice none 0 0, .slice none 0 0]
  simp only [World.size_alloc] at hr
  have HR := Lib.hid hr; clear hr
  obtain ⟨k0, k1, k2, k3, k4, k5, k6, kf0, kf1, kf2, kf3, kf4, kf5, kf6⟩ := HK.out.c7
  obtain ⟨x0, x1, xf0, xf1⟩ := HX.out.c2
  obtain ⟨r0, r1, r2, r3, r4, r5, r6, rf0, rf1, rf2, rf3, rf4, rf5, rf6⟩ := HR.out.c7
  have HS := Lib.hid (SbsAt.kept hs hal)
  have HF := Lib.hid (FdsAt.kept hf hal)
  clear hs hf hal
  have hc := fun W (h1 : SbsAt W (.slice ps su.length zs) su) (h2 : FdsAt W (.slice pf fd.length zf) fd) (e : Env W) => own_mcheck tz st ti bl fr (.slice ps su.length zs) (.slice pf fd.length zf) su fd W h1 h2 (by omega) (fun i hi => Nat.le_trans (hl i hi) (by omega)) e
  rw [h0] at hc
  clear hl h0
  have HC := Lib.hid hc; clear hc
  go_enter Tryz.func22, Tryz.ntmps22
  go_upto_region 12 with (first | (with_reducible refine ((HC.out _ HS.out HF.out (ENV.out.below HB.out)).mono ?_); rintro e w' ⟨rfl, hb⟩; replace HK := Lib.hid (HK.out.keep hb); clear k0 k1 k2 k3 k4 k5 k6 kf0 kf1 kf2 kf3 kf4 kf5 kf6; replace HX := Lib.hid (HX.out.keep hb); clear x0 x1 xf0 xf1; replace HR := Lib.hid (HR.out.keep hb); clear r0 r1 r2 r3 r4 r5 r6 rf0 rf1 rf2 rf3 rf4 rf5 rf6; replace HS := Lib.hid (SbsAt.kept HS.out hb); replace HF := Lib.hid (FdsAt.kept HF.out hb); replace HB := Lib.hid (bch' HB.out hb); clear hb; obtain ⟨k0, k1, k2, k3, k4, k5, k6, kf0, kf1, kf2, kf3, kf4, kf5, kf6⟩ := HK.out.c7; obtain ⟨x0, x1, xf0, xf1⟩ := HX.out.c2; obtain ⟨r0, r1, r2, r3, r4, r5, r6, rf0, rf1, rf2, rf3, rf4, rf5, rf6⟩ := HR.out.c7))
  have HK2 := Lib.hid (HK.out.set_ 4 (.bool false))
  have HR2 := Lib.hid (HR.out.far (p := ⟨w.heap.size, 4, none⟩) (show w.heap.size + 1 + 1 ≠ w.heap.size by omega) (.bool false))
  have HB2 := Lib.hid (HB.out.setCell (p := ⟨w.heap.size, 4, none⟩) (Nat.le_refl _) (.bool false))
  clear k0 k1 k2 k3 k4 k5 k6 kf0 kf1 kf2 kf3 kf4 kf5 kf6; clear x0 x1 xf0 xf1; clear r0 r1 r2 r3 r4 r5 r6 rf0 rf1 rf2 rf3 rf4 rf5 rf6
  clear HK HR HB HX HS HF
  generalize w'.setCell ⟨w.heap.size, 4, none⟩ (.bool false) = w6 at *
  have HK : Hid (Blk w6 w.heap.size 28 #[.string ⟨(fr).toArray⟩, .int .i64 tz, .int .i64 st, .int .i64 ti, .bool false, (.slice ps su.length zs), (.slice pf fd.length zf)]) := HK2; have HR := HR2; have HB := HB2; clear HK2 HR2 HB2
  obtain ⟨k0, k1, k2, k3, k4, k5, k6, kf0, kf1, kf2, kf3, kf4, kf5, kf6⟩ := HK.out.c7
  obtain ⟨r0, r1, r2, r3, r4, r5, r6, rf0, rf1, rf2, rf3, rf4, rf5, rf6⟩ := HR.out.c7
  go_wp2_with fail
  refine bodyPost_ret_by (v := .tuple #[.agg #[.string ⟨(fr).toArray⟩, .int .i64 tz, .int .i64 st, .int .i64 ti, .bool false, (.slice ps su.length zs), (.slice pf fd.length zf)], .int .i64 0]) (by simp [results, Tryz.f22, go_sem, r0, r1, r2, r3, r4, r5, r6, rf0, rf1, rf2, rf3, rf4, rf5, rf6]) rfl ⟨rfl, ?_⟩
  exact (((((((HB.out.setCell (show w.heap.size ≤ w.heap.size + 1 + 1 by omega) _).setCell (show w.heap.size ≤ w.heap.size + 1 + 1 by omega) _).setCell (show w.heap.size ≤ w.heap.size + 1 + 1 by omega) _).setCell (show w.heap.size ≤ w.heap.size + 1 + 1 by omega) _).setCell (show w.heap.size ≤ w.heap.size + 1 + 1 by omega) _).setCell (show w.heap.size ≤ w.heap.size + 1 + 1 by omega) _).setCell (show w.heap.size ≤ w.heap.size + 1 + 1 by omega) _)

set_option maxRecDepth 100000 in
set_option maxHeartbeats 8000000 in
theorem own_mwo_sevenD (tz st ti : Int) (bl : Bool) (fr : Txt) (su : List Sb) (fd : List Fdr) (sn : Int) (w : World) (ps pf : Option Addr) (zs zf : Nat) (w0 : World) (hd : su ≠ [] → ∃ b o, ps = some ⟨b, o, none⟩ ∧ b < w.heap.size ∧ SbsD w0 w b o su) (hb0 : Below w0.heap.size w0 w) (hs : SbsAt w (.slice ps su.length zs) su) (hf : FdsAt w (.slice pf fd.length zf) fd) (hx : fr.length ≤ 60) (hl : ∀ i, i < fd.length → (fdv fd i).fr.length ≤ 60) (h0 : maE fr tz st ti su fd = 0) (hh : hasI su sn = true) (env : Env w) :
    Calls Tryz.prog 22 #[.agg #[.string ⟨(fr).toArray⟩, .int .i64 tz, .int .i64 st, .int .i64 ti, .bool (bl), (.slice ps su.length zs), (.slice pf fd.length zf)], .agg #[.int .i64 7, .int .i64 sn]] w fun e w' => ∃ pp cc L, e = .returned (.tuple #[.agg #[.string ⟨(fr).toArray⟩, .int .i64 tz, .int .i64 st, .int .i64 ti, .bool (bl), .slice pp L.length cc, (.slice pf fd.length zf)], .int .i64 0]) ∧ OwnR encS 4 w.heap.size 58 w' pp cc L ∧ HasG w0 L ∧ L.map (·.1) = freeL su sn ∧ Below w.heap.size w w' := by
  obtain ⟨-, h2, -⟩ := maE_zero h0
  have ht := tabOk h2
  have H16 := Lib.hid ht.few
  clear h2 ht
  obtain ⟨i0, hi, hz0, hz1, hz2⟩ := info_parts info_sub
  have HH := Lib.hid hh; clear hh
  have hv2 := Lib.hid hd; clear hd
  have HB00 := Lib.hid hb0; clear hb0
  have ENV := Lib.hid env; clear env
  have hal := ((((Below.refl w.heap.size w).alloc (Nat.le_refl _) (.cells #[.string ⟨(fr).toArray⟩, .int .i64 tz, .int .i64 st, .int .i64 ti, .bool (bl), (.slice ps su.length zs), (.slice pf fd.length zf)] 28)).alloc (by simp) (.cells #[.int .i64 7, .int .i64 sn] 43)).alloc (by rw [World.size_alloc, World.size_alloc]; omega) (.cells #[.string ⟨#[]⟩, .int .i64 0, .int .i64 0, .int .i64 0, .bool false, .slice none 0 0, .slice none 0 0] 28))
  have HB := Lib.hid hal
  have hk := ((Blk.new (w) 28 #[.string ⟨(fr).toArray⟩, .int .i64 tz, .int .i64 st, .int .i64 ti, .bool (bl), (.slice ps su.length zs), (.slice pf fd.length zf)]).alloc (.cells #[.int .i64 7, .int .i64 sn] 43)).alloc (.cells #[.string ⟨#[]⟩, .int .i64 0, .int .i64 0, .int .i64 0, .bool false, .slice none 0 0, .slice none 0 0] 28)
  have HK := Lib.hid hk; clear hk
  have hx := (Blk.new (w.alloc (.cells #[.string ⟨(fr).toArray⟩, .int .i64 tz, .int .i64 st, .int .i64 ti, .bool (bl), (.slice ps su.length zs), (.slice pf fd.length zf)] 28)) 43 #[.int .i64 7, .int .i64 sn]).alloc (.cells #[.string ⟨#[]⟩, .int .i64 0, .int .i64 0, .int .i64 0, .bool false, .slice none 0 0, .slice none 0 0] 28)
  simp only [World.size_alloc] at hx
  have HX := Lib.hid hx; clear hx
  have hr := Blk.new ((w.alloc (.cells #[.string ⟨(fr).toArray⟩, .int .i64 tz, .int .i64 st, .int .i64 ti, .bool (bl), (.slice ps su.length zs), (.slice pf fd.length zf)] 28)).alloc (.cells #[.int .i64 7, .int .i64 sn] 43)) 28 #[.string ⟨#[]⟩, .int .i64 0, .int .i64 0, .int .i64 0, .bool false, .slice none 0 0, .slice none 0 0]
  simp only [World.size_alloc] at hr
  have HR := Lib.hid hr; clear hr
  obtain ⟨k0, k1, k2, k3, k4, k5, k6, kf0, kf1, kf2, kf3, kf4, kf5, kf6⟩ := HK.out.c7
  obtain ⟨x0, x1, xf0, xf1⟩ := HX.out.c2
  obtain ⟨r0, r1, r2, r3, r4, r5, r6, rf0, rf1, rf2, rf3, rf4, rf5, rf6⟩ := HR.out.c7
  have HS := Lib.hid (SbsAt.kept hs hal)
  have HF := Lib.hid (FdsAt.kept hf hal)
  clear hs hf hal
  have hc := fun W (h1 : SbsAt W (.slice ps su.length zs) su) (h2 : FdsAt W (.slice pf fd.length zf) fd) (e : Env W) => own_mcheck tz st ti bl fr (.slice ps su.length zs) (.slice pf fd.length zf) su fd W h1 h2 (by omega) (fun i hi => Nat.le_trans (hl i hi) (by omega)) e
  rw [h0] at hc
  clear hl h0
  have HC := Lib.hid hc; clear hc
  go_enter Tryz.func22, Tryz.ntmps22
  go_upto_region 14 with (first | (with_reducible refine ((HC.out _ HS.out HF.out (ENV.out.below HB.out)).mono ?_); rintro e w' ⟨rfl, hb⟩; replace HK := Lib.hid (HK.out.keep hb); clear k0 k1 k2 k3 k4 k5 k6 kf0 kf1 kf2 kf3 kf4 kf5 kf6; replace HX := Lib.hid (HX.out.keep hb); clear x0 x1 xf0 xf1; replace HR := Lib.hid (HR.out.keep hb); clear r0 r1 r2 r3 r4 r5 r6 rf0 rf1 rf2 rf3 rf4 rf5 rf6; replace HS := Lib.hid (SbsAt.kept HS.out hb); replace HF := Lib.hid (FdsAt.kept HF.out hb); replace HB := Lib.hid (bch' HB.out hb); clear hb; obtain ⟨k0, k1, k2, k3, k4, k5, k6, kf0, kf1, kf2, kf3, kf4, kf5, kf6⟩ := HK.out.c7; obtain ⟨x0, x1, xf0, xf1⟩ := HX.out.c2; obtain ⟨r0, r1, r2, r3, r4, r5, r6, rf0, rf1, rf2, rf3, rf4, rf5, rf6⟩ := HR.out.c7))
  obtain ⟨w1, rfl⟩ : ∃ w1 : World, w1 = w' := ⟨_, rfl⟩
  have HK1 := HK; have HX1 := HX; have HR1 := HR; have HB0 := HB
  clear HB
  have HB := Lib.hid (Below.refl w1.heap.size w1)
  clear HS HF
  go_wp2_with fail
  go_loopw [7, 37] (fun s i wr => ∃ (k r : Nat) (pp : Option Addr) (cc : Nat) (L : List (Sb × Value)), i = .int .i64 (k : Int) ∧ s = .slice pp L.length cc ∧ Hid (k + r = su.length) ∧ Hid (Below w1.heap.size w1 wr) ∧ Hid (OwnR encS 4 w1.heap.size 58 wr pp cc L) ∧ Hid (∀ x ∈ L, GnsAt w0 x.2 x.1.gs) ∧ Hid (L.map (·.1) = freeL (su.take k) sn)) (fun _ i _ => su.length - (intOf i).toNat)
  case atStart => exact ⟨0, su.length, none, 0, [], rfl, rfl, Lib.hid (by omega), HB, Lib.hid (OwnR.nil _ _ _), Lib.hid (fun x h => by cases h), Lib.hid rfl⟩
  case round =>
    obtain ⟨k, r, pp, cc, L, rfl, rfl, hkr, HB2, HO2, HGA2, HL2⟩ := hrel
    clear HB HK HX HR
    clear k0 k1 k2 k3 k4 k5 k6 kf0 kf1 kf2 kf3 kf4 kf5 kf6; clear x0 x1 xf0 xf1; clear r0 r1 r2 r3 r4 r5 r6 rf0 rf1 rf2 rf3 rf4 rf5 rf6
    have HB := HB2; have HO := HO2; have HGA := HGA2; have HL := HL2; clear HB2 HO2 HGA2 HL2
    have HK := Lib.hid (HK1.out.keep HB.out)
    have HX := Lib.hid (HX1.out.keep HB.out)
    have HR := Lib.hid (HR1.out.keep HB.out)
    have HBW : Hid (Below w.heap.size w wr) := Lib.hid (bch' HB0.out HB.out)
    obtain ⟨k0, k1, k2, k3, k4, k5, k6, kf0, kf1, kf2, kf3, kf4, kf5, kf6⟩ := HK.out.c7
    obtain ⟨x0, x1, xf0, xf1⟩ := HX.out.c2
    obtain ⟨r0, r1, r2, r3, r4, r5, r6, rf0, rf1, rf2, rf3, rf4, rf5, rf6⟩ := HR.out.c7
    cases r with
    | zero =>
      have hlt : ¬ (k : Int) < (su.length : Int) := by have := hkr.out; omega
      have HE : Hid (L.map (·.1) = freeL su sn) := by show _ = _; rw [HL.out, List.take_of_length_le (by have := hkr.out; omega)]
      have HLL : Hid (L.length = (freeL su sn).length) := Lib.hid (maps_len HE.out)
      have hq : ((L.length : Int) == (su.length : Int)) = false := by have := free_len HH.out; rw [HLL.out]; simp; omega
      have hq2 : ¬ (L.length = su.length) := by have := free_len HH.out; rw [HLL.out]; omega
      go_upto_region 24 with fail
      have HK2 := Lib.hid (HK.out.set_ 5 (.slice pp L.length cc))
      have HR2 := Lib.hid (HR.out.far (p := ⟨w.heap.size, 5, none⟩) (show w.heap.size + 1 + 1 ≠ w.heap.size by omega) (.slice pp L.length cc))
      have HB2 := Lib.hid (HBW.out.setCell (p := ⟨w.heap.size, 5, none⟩) (Nat.le_refl _) (.slice pp L.length cc))
      have HN1 := Lib.hid (far_set (B := w1.heap.size) (w := wr) (w' := wr) (fun _ _ => rfl) (p := ⟨w.heap.size, 5, none⟩) (by have := HR1.out.lt; show w.heap.size < _; omega) (.slice pp L.length cc))
      clear k0 k1 k2 k3 k4 k5 k6 kf0 kf1 kf2 kf3 kf4 kf5 kf6; clear x0 x1 xf0 xf1; clear r0 r1 r2 r3 r4 r5 r6 rf0 rf1 rf2 rf3 rf4 rf5 rf6
      clear HK HR HX HBW
      generalize wr.setCell ⟨w.heap.size, 5, none⟩ (.slice pp L.length cc) = w6 at *
      have HK : Hid (Blk w6 w.heap.size 28 #[.string ⟨(fr).toArray⟩, .int .i64 tz, .int .i64 st, .int .i64 ti, .bool (bl), .slice pp L.length cc, (.slice pf fd.length zf)]) := HK2; have HR := HR2; have HBW := HB2; clear HK2 HR2 HB2
      obtain ⟨k0, k1, k2, k3, k4, k5, k6, kf0, kf1, kf2, kf3, kf4, kf5, kf6⟩ := HK.out.c7
      obtain ⟨r0, r1, r2, r3, r4, r5, r6, rf0, rf1, rf2, rf3, rf4, rf5, rf6⟩ := HR.out.c7
      go_wp2_with fail
      refine bodyPost_ret_by (v := .tuple #[.agg #[.string ⟨(fr).toArray⟩, .int .i64 tz, .int .i64 st, .int .i64 ti, .bool (bl), .slice pp L.length cc, (.slice pf fd.length zf)], .int .i64 0]) (by simp [results, Tryz.f22, go_sem, r0, r1, r2, r3, r4, r5, r6, rf0, rf1, rf2, rf3, rf4, rf5, rf6]) rfl ⟨pp, cc, L, rfl, (HO.out.far (far_set7 HN1.out (n := w.heap.size + 1 + 1) HR1.out.lt (.string ⟨(fr).toArray⟩) (.int .i64 tz) (.int .i64 st) (.int .i64 ti) (.bool (bl)) (.slice pp L.length cc) ((.slice pf fd.length zf)))).base (by have := HB0.out.size; omega), HGA.out, HE.out, ?_⟩
      exact (((((((HBW.out.setCell (show w.heap.size ≤ w.heap.size + 1 + 1 by omega) _).setCell (show w.heap.size ≤ w.heap.size + 1 + 1 by omega) _).setCell (show w.heap.size ≤ w.heap.size + 1 + 1 by omega) _).setCell (show w.heap.size ≤ w.heap.size + 1 + 1 by omega) _).setCell (show w.heap.size ≤ w.heap.size + 1 + 1 by omega) _).setCell (show w.heap.size ≤ w.heap.size + 1 + 1 by omega) _).setCell (show w.heap.size ≤ w.heap.size + 1 + 1 by omega) _)
    | succ r =>
      have hkl : k < su.length := by have := hkr.out; omega
      have h16 := H16.out
      have hlt : (k : Int) < (su.length : Int) := by omega
      have hun : IntKind.i64.wrap ((k : Int) + 1) = (k : Int) + 1 := IntWalk.i64_in _ (by omega)
      obtain ⟨b, o, rfl, hb, hC⟩ := hv2.out (fun h => by subst h; simp at hkl)
      obtain ⟨gv, gn, hgn⟩ : ∃ gv, w.cell? ⟨b, o + k * 4 + 3, none⟩ = some gv ∧ GnsAt w0 gv (sbv su k).gs := by obtain ⟨-, -, -, gv, h1, h2⟩ := hC k hkl; exact ⟨gv, h1, h2⟩
      obtain ⟨z1, z2, z3, -⟩ := hC.below HBW.out hb k hkl
      have z4 := (HBW.out.cell (p := ⟨b, o + k * 4 + 3, none⟩) hb).trans gn
      clear hC gn
      have HGN := Lib.hid hgn
      obtain ⟨pg, cg, rfl, -, -⟩ := hgn
      have hbr : b < wr.heap.size := by have := HBW.out.size; omega
      have HLN : Hid (L.length ≤ 17) := Lib.hid (by rw [maps_len HL.out]; have := free_few (k := k) sn h16; omega)
      clear h16
      by_cases e : (sbv su k).nu = sn
      · have HEQ := Lib.hid e; clear e
        cases hinh : (sbv su k).inh
        · rw [hinh] at z3
          have HIN := Lib.hid hinh; clear hinh
          have HL3 : Hid ((L ++ [(sbv su k, (Value.slice pg (sbv su k).gs.length cg))]).map (·.1) = freeL (su.take (k + 1)) sn) := by show _ = _; rw [List.map_append, HL.out, free_succ sn hkl, show freeP sn (sbv su k) = true by rw [freeP_eq HEQ.out, HIN.out]; rfl]; rfl
          go_upto_region 18 with fail
          have HB4 := Lib.hid (HB.out.alloc HB.out.size (.cells #[.int .i64 (sbv su k).nu, .int .i64 (sbv su k).pr, .bool false, (Value.slice pg (sbv su k).gs.length cg)] 58))
          have HO4 := Lib.hid (HO.out.keep ((Below.refl wr.heap.size wr).alloc (Nat.le_refl _) (.cells #[.int .i64 (sbv su k).nu, .int .i64 (sbv su k).pr, .bool false, (Value.slice pg (sbv su k).gs.length cg)] 58)))
          have HE4 := Lib.hid (Blk.new wr 58 #[.int .i64 (sbv su k).nu, .int .i64 (sbv su k).pr, .bool false, (Value.slice pg (sbv su k).gs.length cg)])
          have HX4 := Lib.hid (HX.out.alloc (.cells #[.int .i64 (sbv su k).nu, .int .i64 (sbv su k).pr, .bool false, (Value.slice pg (sbv su k).gs.length cg)] 58))
          clear k0 k1 k2 k3 k4 k5 k6 kf0 kf1 kf2 kf3 kf4 kf5 kf6; clear x0 x1 xf0 xf1; clear r0 r1 r2 r3 r4 r5 r6 rf0 rf1 rf2 rf3 rf4 rf5 rf6
          clear HK HX HR HO HB HBW z1 z2 z3 z4
          generalize wr.alloc (.cells #[.int .i64 (sbv su k).nu, .int .i64 (sbv su k).pr, .bool false, (Value.slice pg (sbv su k).gs.length cg)] 58) = wy at *
          have HO := HO4; have HB := HB4; clear HO4 HB4
          obtain ⟨e0, e1, e2, e3, ef0, ef1, ef2, ef3⟩ := HE4.out.c4
          obtain ⟨x0, x1, xf0, xf1⟩ := HX4.out.c2
          have hq : ((((sbv su k).nu : Int)) != sn) = false := by simpa using HEQ.out
          go_wp2_with (first | (at_builtin; refine wpList_appR2 rfl _ _ 25 rfl w1.heap.size 58 i0 (.agg #[.int .i64 0, .int .i64 0, .bool false, .slice none 0 0]) 48 Tryz.underlying25 hi hz0 hz1 hz2 rfl (by decide) (by decide) pp cc L.length L rfl _ (sbv su k, (Value.slice pg (sbv su k).gs.length cg)) wy.heap.size rfl (fun j u hu => cell_new_of wy 58 (by simpa [encS, HIN.out] using hu)) (encS_one HGN.out) rfl (HO.out.keep ((Below.refl _ wy).alloc (Nat.le_refl _) _)) rfl (by have := HLN.out; omega) (by have := HB.out.size; rw [World.size_alloc]; omega) ?_; intro p1 c1 w3 hO3 hb3 hk3; have HO3 := Lib.hid hO3; have HB3 := Lib.hid hb3; clear hO3 hb3 hk3))
          go_roundw
          case rel => exact ⟨k + 1, r, p1, c1, L ++ [(sbv su k, (Value.slice pg (sbv su k).gs.length cg))], by first | rfl | simp, by simp, Lib.hid (by have := hkr.out; omega), Lib.hid (HB.out.trans (((Below.refl _ wy).alloc (by have := HB.out.size; omega) _).trans HB3.out)), HO3, Lib.hid (fun x hx => by rcases List.mem_append.1 hx with h | h; exact HGA.out x h; rw [List.mem_singleton.1 h]; exact HGN.out), HL3⟩
          case measure => first | (simp [intOf]; done) | (simp [intOf]; omega)
        · rw [hinh] at z3
          have HIN := Lib.hid hinh; clear hinh
          have HL3 : Hid (L.map (·.1) = freeL (su.take (k + 1)) sn) := by show _ = _; rw [HL.out, free_succ sn hkl, show freeP sn (sbv su k) = false by rw [freeP_eq HEQ.out, HIN.out]; rfl]; simp
          go_upto_region 18 with fail
          have HB4 := Lib.hid (HB.out.alloc HB.out.size (.cells #[.int .i64 (sbv su k).nu, .int .i64 (sbv su k).pr, .bool true, (Value.slice pg (sbv su k).gs.length cg)] 58))
          have HO4 := Lib.hid (HO.out.keep ((Below.refl wr.heap.size wr).alloc (Nat.le_refl _) (.cells #[.int .i64 (sbv su k).nu, .int .i64 (sbv su k).pr, .bool true, (Value.slice pg (sbv su k).gs.length cg)] 58)))
          have HE4 := Lib.hid (Blk.new wr 58 #[.int .i64 (sbv su k).nu, .int .i64 (sbv su k).pr, .bool true, (Value.slice pg (sbv su k).gs.length cg)])
          have HX4 := Lib.hid (HX.out.alloc (.cells #[.int .i64 (sbv su k).nu, .int .i64 (sbv su k).pr, .bool true, (Value.slice pg (sbv su k).gs.length cg)] 58))
          clear k0 k1 k2 k3 k4 k5 k6 kf0 kf1 kf2 kf3 kf4 kf5 kf6; clear x0 x1 xf0 xf1; clear r0 r1 r2 r3 r4 r5 r6 rf0 rf1 rf2 rf3 rf4 rf5 rf6
          clear HK HX HR HO HB HBW z1 z2 z3 z4
          generalize wr.alloc (.cells #[.int .i64 (sbv su k).nu, .int .i64 (sbv su k).pr, .bool true, (Value.slice pg (sbv su k).gs.length cg)] 58) = wy at *
          have HO := HO4; have HB := HB4; clear HO4 HB4
          obtain ⟨e0, e1, e2, e3, ef0, ef1, ef2, ef3⟩ := HE4.out.c4
          obtain ⟨x0, x1, xf0, xf1⟩ := HX4.out.c2
          have hq : ((((sbv su k).nu : Int)) != sn) = false := by simpa using HEQ.out
          go_wp2_with fail
          go_roundw
          case rel => exact ⟨k + 1, r, pp, cc, L, by first | rfl | simp, by first | rfl | simp, Lib.hid (by have := hkr.out; omega), HB, HO, HGA, HL3⟩
          case measure => first | (simp [intOf]; done) | (simp [intOf]; omega)
      · have HNE := Lib.hid e; clear e
        cases hinh : (sbv su k).inh
        · rw [hinh] at z3
          have HIN := Lib.hid hinh; clear hinh
          have HL3 : Hid ((L ++ [(sbv su k, (Value.slice pg (sbv su k).gs.length cg))]).map (·.1) = freeL (su.take (k + 1)) sn) := by show _ = _; rw [List.map_append, HL.out, free_succ sn hkl, freeP_ne HNE.out]; rfl
          go_upto_region 18 with fail
          have HB4 := Lib.hid (HB.out.alloc HB.out.size (.cells #[.int .i64 (sbv su k).nu, .int .i64 (sbv su k).pr, .bool false, (Value.slice pg (sbv su k).gs.length cg)] 58))
          have HO4 := Lib.hid (HO.out.keep ((Below.refl wr.heap.size wr).alloc (Nat.le_refl _) (.cells #[.int .i64 (sbv su k).nu, .int .i64 (sbv su k).pr, .bool false, (Value.slice pg (sbv su k).gs.length cg)] 58)))
          have HE4 := Lib.hid (Blk.new wr 58 #[.int .i64 (sbv su k).nu, .int .i64 (sbv su k).pr, .bool false, (Value.slice pg (sbv su k).gs.length cg)])
          have HX4 := Lib.hid (HX.out.alloc (.cells #[.int .i64 (sbv su k).nu, .int .i64 (sbv su k).pr, .bool false, (Value.slice pg (sbv su k).gs.length cg)] 58))
          clear k0 k1 k2 k3 k4 k5 k6 kf0 kf1 kf2 kf3 kf4 kf5 kf6; clear x0 x1 xf0 xf1; clear r0 r1 r2 r3 r4 r5 r6 rf0 rf1 rf2 rf3 rf4 rf5 rf6
          clear HK HX HR HO HB HBW z1 z2 z3 z4
          generalize wr.alloc (.cells #[.int .i64 (sbv su k).nu, .int .i64 (sbv su k).pr, .bool false, (Value.slice pg (sbv su k).gs.length cg)] 58) = wy at *
          have HO := HO4; have HB := HB4; clear HO4 HB4
          obtain ⟨e0, e1, e2, e3, ef0, ef1, ef2, ef3⟩ := HE4.out.c4
          obtain ⟨x0, x1, xf0, xf1⟩ := HX4.out.c2
          have hq : ((((sbv su k).nu : Int)) != sn) = true := by simpa using HNE.out
          go_wp2_with (first | (at_builtin; refine wpList_appR2 rfl _ _ 25 rfl w1.heap.size 58 i0 (.agg #[.int .i64 0, .int .i64 0, .bool false, .slice none 0 0]) 48 Tryz.underlying25 hi hz0 hz1 hz2 rfl (by decide) (by decide) pp cc L.length L rfl _ (sbv su k, (Value.slice pg (sbv su k).gs.length cg)) wy.heap.size rfl (fun j u hu => cell_new_of wy 58 (by simpa [encS, HIN.out] using hu)) (encS_one HGN.out) rfl (HO.out.keep ((Below.refl _ wy).alloc (Nat.le_refl _) _)) rfl (by have := HLN.out; omega) (by have := HB.out.size; rw [World.size_alloc]; omega) ?_; intro p1 c1 w3 hO3 hb3 hk3; have HO3 := Lib.hid hO3; have HB3 := Lib.hid hb3; clear hO3 hb3 hk3))
          go_roundw
          case rel => exact ⟨k + 1, r, p1, c1, L ++ [(sbv su k, (Value.slice pg (sbv su k).gs.length cg))], by first | rfl | simp, by simp, Lib.hid (by have := hkr.out; omega), Lib.hid (HB.out.trans (((Below.refl _ wy).alloc (by have := HB.out.size; omega) _).trans HB3.out)), HO3, Lib.hid (fun x hx => by rcases List.mem_append.1 hx with h | h; exact HGA.out x h; rw [List.mem_singleton.1 h]; exact HGN.out), HL3⟩
          case measure => first | (simp [intOf]; done) | (simp [intOf]; omega)
        · rw [hinh] at z3
          have HIN := Lib.hid hinh; clear hinh
          have HL3 : Hid ((L ++ [(sbv su k, (Value.slice pg (sbv su k).gs.length cg))]).map (·.1) = freeL (su.take (k + 1)) sn) := by show _ = _; rw [List.map_append, HL.out, free_succ sn hkl, freeP_ne HNE.out]; rfl
          go_upto_region 18 with fail
          have HB4 := Lib.hid (HB.out.alloc HB.out.size (.cells #[.int .i64 (sbv su k).nu, .int .i64 (sbv su k).pr, .bool true, (Value.slice pg (sbv su k).gs.length cg)] 58))
          have HO4 := Lib.hid (HO.out.keep ((Below.refl wr.heap.size wr).alloc (Nat.le_refl _) (.cells #[.int .i64 (sbv su k).nu, .int .i64 (sbv su k).pr, .bool true, (Value.slice pg (sbv su k).gs.length cg)] 58)))
          have HE4 := Lib.hid (Blk.new wr 58 #[.int .i64 (sbv su k).nu, .int .i64 (sbv su k).pr, .bool true, (Value.slice pg (sbv su k).gs.length cg)])
          have HX4 := Lib.hid (HX.out.alloc (.cells #[.int .i64 (sbv su k).nu, .int .i64 (sbv su k).pr, .bool true, (Value.slice pg (sbv su k).gs.length cg)] 58))
          clear k0 k1 k2 k3 k4 k5 k6 kf0 kf1 kf2 kf3 kf4 kf5 kf6; clear x0 x1 xf0 xf1; clear r0 r1 r2 r3 r4 r5 r6 rf0 rf1 rf2 rf3 rf4 rf5 rf6
          clear HK HX HR HO HB HBW z1 z2 z3 z4
          generalize wr.alloc (.cells #[.int .i64 (sbv su k).nu, .int .i64 (sbv su k).pr, .bool true, (Value.slice pg (sbv su k).gs.length cg)] 58) = wy at *
          have HO := HO4; have HB := HB4; clear HO4 HB4
          obtain ⟨e0, e1, e2, e3, ef0, ef1, ef2, ef3⟩ := HE4.out.c4
          obtain ⟨x0, x1, xf0, xf1⟩ := HX4.out.c2
          have hq : ((((sbv su k).nu : Int)) != sn) = true := by simpa using HNE.out
          go_wp2_with (first | (at_builtin; refine wpList_appR2 rfl _ _ 25 rfl w1.heap.size 58 i0 (.agg #[.int .i64 0, .int .i64 0, .bool false, .slice none 0 0]) 48 Tryz.underlying25 hi hz0 hz1 hz2 rfl (by decide) (by decide) pp cc L.length L rfl _ (sbv su k, (Value.slice pg (sbv su k).gs.length cg)) wy.heap.size rfl (fun j u hu => cell_new_of wy 58 (by simpa [encS, HIN.out] using hu)) (encS_one HGN.out) rfl (HO.out.keep ((Below.refl _ wy).alloc (Nat.le_refl _) _)) rfl (by have := HLN.out; omega) (by have := HB.out.size; rw [World.size_alloc]; omega) ?_; intro p1 c1 w3 hO3 hb3 hk3; have HO3 := Lib.hid hO3; have HB3 := Lib.hid hb3; clear hO3 hb3 hk3))
          go_roundw
          case rel => exact ⟨k + 1, r, p1, c1, L ++ [(sbv su k, (Value.slice pg (sbv su k).gs.length cg))], by first | rfl | simp, by simp, Lib.hid (by have := hkr.out; omega), Lib.hid (HB.out.trans (((Below.refl _ wy).alloc (by have := HB.out.size; omega) _).trans HB3.out)), HO3, Lib.hid (fun x hx => by rcases List.mem_append.1 hx with h | h; exact HGA.out x h; rw [List.mem_singleton.1 h]; exact HGN.out), HL3⟩
          case measure => first | (simp [intOf]; done) | (simp [intOf]; omega)

theorem own_mwo_okX (tz st ti : Int) (bl : Bool) (fr : Txt) (sv fv : Value) (su : List Sb) (fd : List Fdr) (sk sn : Int) (B : Nat) (w : World) (w0 : World) (hX : SbsX B w0 w sv su) (hb0 : Below w0.heap.size w0 w) (hB : B < w.heap.size) (hf : FdsAt w fv fd) (hx : fr.length ≤ 60) (hl : ∀ i, i < fd.length → (fdv fd i).fr.length ≤ 60) (h0 : maE fr tz st ti su fd = 0) (hw : woE sk sn su = 0) (env : Env w) :
    Calls Tryz.prog 22 #[.agg #[.string ⟨(fr).toArray⟩, .int .i64 tz, .int .i64 st, .int .i64 ti, .bool (bl), sv, fv], .agg #[.int .i64 sk, .int .i64 sn]] w fun e w' => ∃ pp cc, e = .returned (.tuple #[.agg #[.string ⟨(aFr [(sk, sn)] fr).toArray⟩, .int .i64 (aTo [(sk, sn)] tz), .int .i64 (aZe [(sk, sn)] st), .int .i64 (aZe [(sk, sn)] ti), .bool (aBl [(sk, sn)] bl), .slice pp (aSu [(sk, sn)] su).length cc, fv], .int .i64 0]) ∧ SbsX B w0 w' (.slice pp (aSu [(sk, sn)] su).length cc) (aSu [(sk, sn)] su) ∧ Below w.heap.size w w' := by
  have hs := hX.at_ hb0
  obtain ⟨ps, zs, rfl, hcs, hd⟩ := hX
  have hX : SbsX B w0 w (.slice ps su.length zs) su := ⟨ps, zs, rfl, hcs, hd⟩
  obtain ⟨pf, zf, rfl⟩ : ∃ pf zf, fv = .slice pf fd.length zf := by obtain ⟨a, b, e, -⟩ := hf; exact ⟨a, b, e⟩
  rcases woE_cases hw with ⟨rfl, rfl⟩ | ⟨rfl, rfl⟩ | ⟨rfl, hh⟩
  · rw [aSu_other (by omega), aBl_five]
    exact (own_mwo_five tz st ti bl fr (.slice ps su.length zs) (.slice pf fd.length zf) su fd w hs hf hx hl h0 env).mono fun e w' h => ⟨ps, zs, h.1, hX.keep h.2, h.2⟩
  · rw [aSu_other (by omega), aBl_six]
    exact (own_mwo_six tz st ti bl fr (.slice ps su.length zs) (.slice pf fd.length zf) su fd w hs hf hx hl h0 env).mono fun e w' h => ⟨ps, zs, h.1, hX.keep h.2, h.2⟩
  · rw [aSu_seven, aBl_seven]
    exact (own_mwo_sevenD tz st ti bl fr su fd sn w ps pf zs zf w0 (fun hn => by obtain ⟨b, o, k1, k2, -, k4⟩ := hd hn; exact ⟨b, o, k1, k2, k4⟩) hb0 hs hf hx hl h0 hh env).mono fun e w' ⟨pp, cc, L, h1, h2, h3, h4, h5⟩ => ⟨pp, cc, by rw [← maps_len h4]; exact h1, SbsX.own h2 h3 h4 hB, h5⟩
end Go.Proofs.YtkjelfmgnkkijaaGreatDoor
