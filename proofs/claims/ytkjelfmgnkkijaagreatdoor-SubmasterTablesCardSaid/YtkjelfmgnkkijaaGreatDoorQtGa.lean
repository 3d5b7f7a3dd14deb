/-
  Law 30: House, at. Law 30: slices.Equal at sources; awake. The reference of layer 30: Few, Check, Main, Scale. The reference of layer 30: Factor; the law MasterScales. The reference of layers 26 and 30: Same. Blocks beside stores. Masters: Without of the program. The reference: Without of layers 26 and 30.
-/
import Derived.Test.YtkjelfmgnkkijaaGreatDoorQtNf
import Derived.Test.YtkjelfmgnkkijaaGreatDoorQtMu
import Derived.Deep.RegionHeld3
import Derived.Test.YtkjelfmgnkkijaaGreatDoorOo
import Derived.Test.YtkjelfmgnkkijaaGreatDoorQq
import Derived.Laws.StructEq
import Derived.Test.YtkjelfmgnkkijaaGreatDoorQtR2
import Derived.Test.YtkjelfmgnkkijaaGreatDoorQtGk
set_option linter.unusedVariables false
set_option linter.unusedSimpArgs false
namespace Lum
open Go Go.RowKit Go.Shelf
open Go.Lib (decDigits itoa)
/-- The submasters of the examples. -/
def houseL : List Sb := [⟨4, 0, true, [⟨1, 0, 65535⟩]⟩, ⟨6, 0, true, [⟨1, 0, 13107⟩, ⟨2, 0, 13107⟩]⟩]
end Lum
namespace Go.Proofs.YtkjelfmgnkkijaaGreatDoor
open Go.RowKit Go.Shelf Lum
open Go.Lib (decDigits itoa)
attribute [local go_sem] bs_get bs_extract_end bs_extract_from bs_extract bs_append

end Go.Proofs.YtkjelfmgnkkijaaGreatDoor
namespace Lum
open Go Go.RowKit Go.Shelf
open Go.Lib (decDigits itoa)
def PtC (W : World) (b o : Nat) (l : List (Int × Int)) : Prop := ∀ i, i < l.length → W.cell? ⟨b, o + i * 2, none⟩ = some (.int .i64 (pX l i)) ∧ W.cell? ⟨b, o + i * 2 + 1, none⟩ = some (.int .i64 (pY l i))
theorem PtC.below {W W' : World} {b o B : Nat} {l : List (Int × Int)} (h : PtC W b o l) (hb : Below B W W') (hl : b < B) : PtC W' b o l :=
  fun i hi => ⟨(hb.cell (p := ⟨b, o + i * 2, none⟩) hl).trans (h i hi).1, (hb.cell (p := ⟨b, o + i * 2 + 1, none⟩) hl).trans (h i hi).2⟩
end Lum
namespace Go.Proofs.YtkjelfmgnkkijaaGreatDoor
open Go.RowKit Go.Shelf Lum
open Go.Lib (decDigits itoa)
attribute [local go_sem] bs_get bs_extract_end bs_extract_from bs_extract bs_append

end Go.Proofs.YtkjelfmgnkkijaaGreatDoor
namespace Lum
open Go Go.RowKit Go.Shelf
open Go.Lib (decDigits itoa)
end Lum
namespace Go.Proofs.YtkjelfmgnkkijaaGreatDoor
open Go.RowKit Go.Shelf Lum
open Go.Lib (decDigits itoa)
attribute [local go_sem] bs_get bs_extract_end bs_extract_from bs_extract bs_append

end Go.Proofs.YtkjelfmgnkkijaaGreatDoor
namespace Go.Proofs.YtkjelfmgnkkijaaGreatDoor
open Go.RowKit Go.Shelf Lum
open Go.Lib (decDigits itoa)
attribute [local go_sem] bs_get bs_extract_end bs_extract_from bs_extract bs_append

end Go.Proofs.YtkjelfmgnkkijaaGreatDoor
namespace Go.Proofs.YtkjelfmgnkkijaaGreatDoor
open Go.RowKit Go.Shelf Lum
open Go.Lib (decDigits itoa)
attribute [local go_sem] bs_get bs_extract_end bs_extract_from bs_extract bs_append

theorem neq_gain0 (W : World) (a b c : Int) : (binOp .neq 85 (.agg #[.int .i64 a, .int .i64 b, .int .i64 c]) (.agg #[.int .i64 a, .int .i64 b, .int .i64 c])).run Tryz.prog W = .ok (.bool false) W := by
  have h1 : Tryz.prog.underlying 85 = some (.struct (Tryz.prog.fieldsOf 85)) := by kernel_rfl
  have h2 : Tryz.prog.stoodInHeld 85 = false := by kernel_rfl
  rw [run_neq_struct, run_equalIn_agg W 9999 _ _ _ h1 h2]
  have hf := TypeDesc.struct.inj (Option.some.inj (h1.symm.trans Tryz.underlying85))
  rw [hf]
  simp [Op.eqFields, go_sem, Tryz.underlying3, Tryz.underlying72]

set_option maxRecDepth 100000 in
set_option maxHeartbeats 4000000 in
theorem r26_same (nu pr : Int) (inh : Bool) (gs : List Gn) (g1 g2 : Value) (w : World) (hv1 : GnsAt w g1 gs) (hv2 : GnsAt w g2 gs) (hn0 : gs.length ≤ 1000000) :
    Calls Tryz.prog 69 #[.agg #[.int .i64 nu, .int .i64 pr, .bool (inh), g1], .agg #[.int .i64 nu, .int .i64 pr, .bool (inh), g2]] w fun e w' => e = .returned (.bool (true)) ∧ Below w.heap.size w w' := by
  obtain ⟨pg1, cg1, rfl, -, h1⟩ := hv1
  obtain ⟨pg2, cg2, rfl, -, h2⟩ := hv2
  have ha1 := Lib.hid h1; have ha2 := Lib.hid h2; clear h1 h2
  have hal := ((Below.refl w.heap.size w).alloc (Nat.le_refl _) (.cells #[.int .i64 nu, .int .i64 pr, .bool (inh), (.slice pg1 gs.length cg1)] 58)).alloc (by simp) (.cells #[.int .i64 nu, .int .i64 pr, .bool (inh), (.slice pg2 gs.length cg2)] 58)
  have HB0 := Lib.hid hal; clear hal
  have HK := Lib.hid ((Blk.new w 58 #[.int .i64 nu, .int .i64 pr, .bool (inh), (.slice pg1 gs.length cg1)]).alloc (.cells #[.int .i64 nu, .int .i64 pr, .bool (inh), (.slice pg2 gs.length cg2)] 58))
  have hR := Blk.new (w.alloc (.cells #[.int .i64 nu, .int .i64 pr, .bool (inh), (.slice pg1 gs.length cg1)] 58)) 58 #[.int .i64 nu, .int .i64 pr, .bool (inh), (.slice pg2 gs.length cg2)]
  rw [World.size_alloc] at hR
  have HR := Lib.hid hR; clear hR
  obtain ⟨k0, k1, k2, k3, kf0, kf1, kf2, kf3⟩ := HK.out.c4
  obtain ⟨r0, r1, r2, r3, rf0, rf1, rf2, rf3⟩ := HR.out.c4
  go_enter Tryz.func69, Tryz.ntmps69
  go_wp2_with fail
  generalize (w.alloc (.cells #[.int .i64 nu, .int .i64 pr, .bool (inh), (.slice pg1 gs.length cg1)] 58)).alloc (.cells #[.int .i64 nu, .int .i64 pr, .bool (inh), (.slice pg2 gs.length cg2)] 58) = w1 at *
  have HB := Lib.hid (Below.refl w1.heap.size w1)
  have HK1 := HK; have HR1 := HR
  go_loopw [5] (fun i wr => ∃ k r : Nat, i = .int .i64 (k : Int) ∧ Hid (k + r = gs.length) ∧ Hid (Below w1.heap.size w1 wr)) (fun i _ => gs.length - (intOf i).toNat)
  case atStart => exact ⟨0, gs.length, rfl, Lib.hid (by omega), HB⟩
  case round =>
    obtain ⟨k, r, rfl, hkr, HB2⟩ := hrel
    clear HB
    have HB := HB2; clear HB2
    clear k0 k1 k2 k3 kf0 kf1 kf2 kf3
    clear r0 r1 r2 r3 rf0 rf1 rf2 rf3
    have HK := Lib.hid (HK1.out.keep HB.out)
    have HR := Lib.hid (HR1.out.keep HB.out)
    obtain ⟨k0, k1, k2, k3, kf0, kf1, kf2, kf3⟩ := HK.out.c4
    obtain ⟨r0, r1, r2, r3, rf0, rf1, rf2, rf3⟩ := HR.out.c4
    have HBW : Hid (Below w.heap.size w wr) := Lib.hid (bch' HB0.out HB.out)
    cases r with
    | zero =>
      have hlt : ¬ (k : Int) < (gs.length : Int) := by have := hkr.out; omega
      go_wp2
      go_ret
      exact ⟨rfl, HBW.out⟩
    | succ r =>
      have hkl : k < gs.length := by have := hkr.out; omega
      have hlt : (k : Int) < (gs.length : Int) := by omega
      have hun : IntKind.i64.wrap ((k : Int) + 1) = (k : Int) + 1 := IntWalk.i64_in _ (by omega)
      obtain ⟨b, o, rfl, hb, h1⟩ := ha1.out (fun h => by subst h; simp at hkl)
      obtain ⟨d, u, rfl, hd, h2⟩ := ha2.out (fun h => by subst h; simp at hkl)
      replace h1 : GnsC w b o gs := h1
      replace h2 : GnsC w d u gs := h2
      obtain ⟨a1, a2, a3⟩ := (h1.below HBW.out hb) k hkl
      obtain ⟨b1, b2, b3⟩ := (h2.below HBW.out hd) k hkl
      clear h1 h2
      have hbr1 : b < wr.heap.size := by have := HBW.out.size; omega
      have hbr2 : d < wr.heap.size := by have := HBW.out.size; omega
      have hn := fun W => neq_gain0 W (gnv gs k).ch (gnv gs k).at_ (gnv gs k).lev
      go_wp2_with fail
      have f3 := fun p : BelowOf _ => (HK.out.keep p.h).c4.2.2.2.1
      have g3 := fun p : BelowOf _ => (HR.out.keep p.h).c4.2.2.2.1
      have x1 := fun p : BelowOf _ => BelowOf.cell hbr1 a1 p
      have x2 := fun p : BelowOf _ => BelowOf.cell hbr1 a2 p
      have x3 := fun p : BelowOf _ => BelowOf.cell hbr1 a3 p
      have y1 := fun p : BelowOf _ => BelowOf.cell hbr2 b1 p
      have y2 := fun p : BelowOf _ => BelowOf.cell hbr2 b2 p
      have y3 := fun p : BelowOf _ => BelowOf.cell hbr2 b3 p
      refine wp_region_WQ (by kernel_rfl) (by kernel_rfl) ?_
      repeat (refine WQ.step (fun K hK => ?_); go_simp; first | (refine hK.out _ ?_; clear hK K) | (apply Exists.intro; refine ⟨fun _ => ?_, hK.out _ ?_⟩; (first | rfl); clear hK K))
      refine WQ.nil ?_
      intro _ hw'
      obtain ⟨⟨wq, hbq⟩, hw2⟩ := hw'
      subst hw2
      replace HB := Lib.hid (bch' HB.out hbq)
      clear f3 g3 x1 x2 x3 y1 y2 y3
      go_wp2_with fail
      go_roundw
      case rel => exact ⟨k + 1, r, by first | rfl | simp, Lib.hid (by have := hkr.out; omega), HB⟩
      case measure => first | (simp [intOf]; done) | (simp [intOf]; omega)

set_option maxRecDepth 100000 in
set_option maxHeartbeats 4000000 in
theorem r26_sametable (su : List Sb) (va vb : Value) (w : World) (ha : SbsAt w va su) (hb : SbsAt w vb su) (hn0 : su.length ≤ 1000000) (hgn : ∀ k, k < su.length → (sbv su k).gs.length ≤ 1000000) :
    Calls Tryz.prog 70 #[va, vb] w fun e w' => e = .returned (.bool (true)) ∧ Below w.heap.size w w' := by
  obtain ⟨p1, c1, rfl, -, h1⟩ := ha
  obtain ⟨p2, c2, rfl, -, h2⟩ := hb
  have ha1 := Lib.hid h1; have ha2 := Lib.hid h2; clear h1 h2
  have HGN := Lib.hid hgn; clear hgn
  have HB := Lib.hid (Below.refl w.heap.size w)
  go_enter Tryz.func70, Tryz.ntmps70
  go_wp2_with fail
  go_loopw [5] (fun i wr => ∃ k r : Nat, i = .int .i64 (k : Int) ∧ Hid (k + r = su.length) ∧ Hid (Below w.heap.size w wr)) (fun i _ => su.length - (intOf i).toNat)
  case atStart => exact ⟨0, su.length, rfl, Lib.hid (by omega), HB⟩
  case round =>
    obtain ⟨k, r, rfl, hkr, HB2⟩ := hrel
    clear HB
    have HB := HB2; clear HB2
    cases r with
    | zero =>
      have hlt : ¬ (k : Int) < (su.length : Int) := by have := hkr.out; omega
      go_wp2
      go_ret
      exact ⟨rfl, HB.out⟩
    | succ r =>
      have hkl : k < su.length := by have := hkr.out; omega
      have hlt : (k : Int) < (su.length : Int) := by omega
      have hun : IntKind.i64.wrap ((k : Int) + 1) = (k : Int) + 1 := IntWalk.i64_in _ (by omega)
      obtain ⟨b, o, rfl, hb, h1⟩ := ha1.out (fun h => by subst h; simp at hkl)
      obtain ⟨d, u, rfl, hd, h2⟩ := ha2.out (fun h => by subst h; simp at hkl)
      obtain ⟨a1, a2, a3, g1, a4, hg1⟩ := h1.below HB.out hb k hkl
      obtain ⟨b1, b2, b3, g2, b4, hg2⟩ := h2.below HB.out hd k hkl
      clear h1 h2
      have hbr1 : b < wr.heap.size := by have := HB.out.size; omega
      have hbr2 : d < wr.heap.size := by have := HB.out.size; omega
      have hse := fun W (g : Below wr.heap.size wr W) => r26_same (sbv su k).nu (sbv su k).pr (sbv su k).inh (sbv su k).gs g1 g2 W (hg1.kept g) (hg2.kept g) (HGN.out k hkl)
      have HSE := Lib.hid hse; clear hse
      clear hg1 hg2
      go_wp2_with fail
      have x1 := fun p : BelowOf _ => BelowOf.cell hbr1 a1 p
      have x2 := fun p : BelowOf _ => BelowOf.cell hbr1 a2 p
      have x3 := fun p : BelowOf _ => BelowOf.cell hbr1 a3 p
      have x4 := fun p : BelowOf _ => BelowOf.cell hbr1 a4 p
      have y1 := fun p : BelowOf _ => BelowOf.cell hbr2 b1 p
      have y2 := fun p : BelowOf _ => BelowOf.cell hbr2 b2 p
      have y3 := fun p : BelowOf _ => BelowOf.cell hbr2 b3 p
      have y4 := fun p : BelowOf _ => BelowOf.cell hbr2 b4 p
      refine wp_region_WQ (by kernel_rfl) (by kernel_rfl) ?_
      repeat (refine WQ.step (fun K hK => ?_); go_simp; first | (refine hK.out _ ?_; clear hK K) | (apply Exists.intro; refine ⟨fun _ => ?_, hK.out _ ?_⟩; (first | rfl | (go_at_call 69; exact calls_below_of _ (HSE.out _ (BelowOf.h _)))); clear hK K))
      refine WQ.nil ?_
      intro _ hw'
      obtain ⟨⟨wq, hbq⟩, hw2⟩ := hw'
      subst hw2
      replace HB := Lib.hid (bch' HB.out hbq)
      clear x1 x2 x3 x4 y1 y2 y3 y4
      go_wp2_with fail
      go_roundw
      case rel => exact ⟨k + 1, r, by first | rfl | simp, Lib.hid (by have := hkr.out; omega), HB⟩
      case measure => first | (simp [intOf]; done) | (simp [intOf]; omega)

end Go.Proofs.YtkjelfmgnkkijaaGreatDoor
namespace Lum
open Go Go.RowKit Go.Shelf
open Go.Lib (decDigits itoa)
theorem sbs_nil (W : World) : SbsAt W (.slice none 0 0) [] := ⟨none, 0, rfl, Nat.le_refl _, fun h => absurd rfl h⟩
end Lum
namespace Lum
open Go Go.RowKit Go.Shelf
open Go.Lib (decDigits itoa)
theorem OwnR.far {β : Type} {enc : β → List Value} {k base : Nat} {e : TypeId} {W W' : World} {p : Option Addr} {c : Nat} {l : List β} (h : OwnR enc k base e W p c l) (hk : ∀ g, base ≤ g → W'.heap[g]? = W.heap[g]?) : OwnR enc k base e W' p c l := by
  obtain ⟨h1, h2⟩ := h
  refine ⟨h1, ?_⟩
  rcases h2 with h2 | ⟨g, cap, cur, hv, hg, hh, r⟩
  · exact .inl h2
  · exact .inr ⟨g, cap, cur, hv, hg, by rw [hk g hg]; exact hh, r⟩
/-- The error of masters without a source. -/
def wfE (fr : Txt) (tz st ti : Int) (su : List Sb) (fd : List Fdr) (k n : Int) : Int := if maE fr tz st ti su fd ≠ 0 then maE fr tz st ti su fd else woE k n su
theorem maps_len {L : List (Sb × Value)} {l : List Sb} (h : L.map (·.1) = l) : L.length = l.length := by rw [← h, List.length_map]
/-- The gains' slices of the elements read as their gains. -/
def HasG (W : World) (L : List (Sb × Value)) : Prop := ∀ x ∈ L, GnsAt W x.2 x.1.gs
theorem OwnR.base {β : Type} {enc : β → List Value} {k base b2 : Nat} {e : TypeId} {W : World} {p : Option Addr} {c : Nat} {l : List β} (h : OwnR enc k base e W p c l) (hb : b2 ≤ base) : OwnR enc k b2 e W p c l := by
  obtain ⟨h1, h2⟩ := h
  refine ⟨h1, ?_⟩
  rcases h2 with h2 | ⟨g, cap, cur, hv, hg, r⟩
  · exact .inl h2
  · exact .inr ⟨g, cap, cur, hv, Nat.le_trans hb hg, r⟩
/-- The cells of a table; the slices of its gains read as they did in an older world. -/
def SbsD (w0 W : World) (b o : Nat) (l : List Sb) : Prop := ∀ i, i < l.length → W.cell? ⟨b, o + i * 4, none⟩ = some (.int .i64 (sbv l i).nu) ∧ W.cell? ⟨b, o + i * 4 + 1, none⟩ = some (.int .i64 (sbv l i).pr) ∧ W.cell? ⟨b, o + i * 4 + 2, none⟩ = some (.bool (sbv l i).inh) ∧
  ∃ gv, W.cell? ⟨b, o + i * 4 + 3, none⟩ = some gv ∧ GnsAt w0 gv (sbv l i).gs
theorem SbsD.of_heap {w0 W W' : World} {b o : Nat} {l : List Sb} (h : SbsD w0 W b o l) (e : W'.heap[b]? = W.heap[b]?) : SbsD w0 W' b o l := fun i hi => by
  obtain ⟨h1, h2, h3, gv, h4, h5⟩ := h i hi
  have k := fun j => World.cell?_of_block (w := W) (w' := W') (a := ⟨b, j, none⟩) e
  exact ⟨(k _).trans h1, (k _).trans h2, (k _).trans h3, gv, (k _).trans h4, h5⟩
theorem SbsD.below {w0 W W' : World} {b o : Nat} {l : List Sb} (h : SbsD w0 W b o l) (hb : Below W.heap.size W W') (hl : b < W.heap.size) : SbsD w0 W' b o l := h.of_heap (hb.block b hl)
/-- A table whose cells lie in a block that is not B. -/
def SbsX (B : Nat) (w0 W : World) (v : Value) (l : List Sb) : Prop := ∃ p c, v = .slice p l.length c ∧ l.length ≤ c ∧ (l ≠ [] → ∃ b o, p = some ⟨b, o, none⟩ ∧ b < W.heap.size ∧ b ≠ B ∧ SbsD w0 W b o l)
theorem SbsX.far {B : Nat} {w0 W W' : World} {v : Value} {l : List Sb} (h : SbsX B w0 W v l) (hs : W.heap.size ≤ W'.heap.size) (hk : ∀ g, g ≠ B → g < W.heap.size → W'.heap[g]? = W.heap[g]?) : SbsX B w0 W' v l := by
  obtain ⟨p, c, h1, h2, h3⟩ := h
  refine ⟨p, c, h1, h2, fun hn => ?_⟩
  obtain ⟨b, o, k1, k2, k3, k4⟩ := h3 hn
  exact ⟨b, o, k1, Nat.lt_of_lt_of_le k2 hs, k3, k4.of_heap (hk b k3 k2)⟩
theorem SbsX.keep {B : Nat} {w0 W W' : World} {v : Value} {l : List Sb} (h : SbsX B w0 W v l) (hb : Below W.heap.size W W') : SbsX B w0 W' v l := h.far hb.size fun g _ hg => hb.block g hg
theorem SbsX.at_ {B : Nat} {w0 W : World} {v : Value} {l : List Sb} (h : SbsX B w0 W v l) (hb : Below w0.heap.size w0 W) : SbsAt W v l := by
  obtain ⟨p, c, h1, h2, h3⟩ := h
  refine ⟨p, c, h1, h2, fun hn => ?_⟩
  obtain ⟨b, o, k1, k2, -, k4⟩ := h3 hn
  refine ⟨b, o, k1, k2, fun i hi => ?_⟩
  obtain ⟨a1, a2, a3, gv, a4, a5⟩ := k4 i hi
  exact ⟨a1, a2, a3, gv, a4, a5.kept hb⟩
theorem SbsX.own {B base : Nat} {w0 W : World} {p : Option Addr} {c : Nat} {L : List (Sb × Value)} {l : List Sb} {e : TypeId} (h : OwnR encS 4 base e W p c L) (hg : HasG w0 L) (hl : L.map (·.1) = l) (hB : B < base) : SbsX B w0 W (.slice p l.length c) l := by
  subst hl
  rw [List.length_map]
  refine ⟨p, c, by rw [List.length_map], by rw [List.length_map]; exact h.cap, fun hn => ?_⟩
  have hne : L ≠ [] := fun e => hn (by rw [e]; rfl)
  obtain ⟨b, hp, hb, hc⟩ := h.at_ encS_len hne
  have hbb := (h.lt _ hp).1
  refine ⟨b, 0, hp, hb, by have : base ≤ b := hbb; omega, fun i hi => ?_⟩
  have hi2 : i < L.length := by simpa using hi
  have hs : sbv (L.map (·.1)) i = (L[i]'hi2).1 := by rw [← sbv_at hi]; simp
  rw [hs]
  have hx := hc i hi2
  exact ⟨hx 0 _ rfl, hx 1 _ rfl, hx 2 _ rfl, (L[i]'hi2).2, hx 3 _ rfl, hg _ (List.getElem_mem hi2)⟩
end Lum
namespace Go.Proofs.YtkjelfmgnkkijaaGreatDoor
open Go.RowKit Go.Shelf Lum
open Go.Lib (decDigits itoa)
attribute [local go_sem] bs_get bs_extract_end bs_extract_from bs_extract bs_append

end Go.Proofs.YtkjelfmgnkkijaaGreatDoor
namespace Lum
open Go Go.RowKit Go.Shelf
open Go.Lib (decDigits itoa)
theorem dropP_ne {n : Int} {s : Sb} (h : ¬ s.nu = n) : dropP n s = true := by unfold dropP; simp [h]
theorem dropP_eq {n : Int} {s : Sb} (h : s.nu = n) : dropP n s = false := by unfold dropP; simp [h]
theorem drop_succ {su : List Sb} {k : Nat} (n : Int) (h : k < su.length) : dropL (su.take (k + 1)) n = dropL (su.take k) n ++ (if dropP n (sbv su k) then [sbv su k] else []) := filt_succ (dropP n) h
theorem drop_few {su : List Sb} {k : Nat} (n : Int) (h : su.length ≤ 16) : (dropL (su.take k) n).length ≤ 16 := by unfold dropL; exact Nat.le_trans (List.length_filter_le _ _) (by rw [List.length_take]; omega)
theorem place_find (su : List Sb) (n : Int) : (∃ i : Nat, i < su.length ∧ ixOf (fun x => x.nu == n) su = (i : Int) ∧ (sbv su i).nu = n) ∨ (ixOf (fun x => x.nu == n) su = -1 ∧ ∀ j, j < su.length → (sbv su j).nu ≠ n) := by
  unfold ixOf
  cases h : su.findIdx? (fun x => x.nu == n) with
  | some i =>
    obtain ⟨hi, hp, hb⟩ := List.findIdx?_eq_some_iff_getElem.1 h
    exact .inl ⟨i, hi, rfl, by have := hp; rw [sbv_at hi] at this; simpa using this⟩
  | none =>
    refine .inr ⟨rfl, fun j hj => ?_⟩
    have := List.findIdx?_eq_none_iff.1 h (su[j]'hj) (List.getElem_mem hj)
    rw [sbv_at hj] at this
    simpa using this

/-- What a call between W and w' has made reads as su in all later worlds in which its blocks stand. -/
def SbsK (w W w' : World) (v : Value) (su : List Sb) : Prop := ∀ W', Below w.heap.size w W' → (∀ g, W.heap.size ≤ g → g < w'.heap.size → W'.heap[g]? = w'.heap[g]?) → SbsAt W' v su
theorem SbsK.old {w W w' : World} {v : Value} {su : List Sb} (h : SbsAt w v su) : SbsK w W w' v su := fun _ hb _ => SbsAt.kept h hb
theorem SbsK.nil {w W w' : World} : SbsK w W w' (.slice none 0 0) [] := fun _ _ _ => sbs_nil _
theorem SbsK.own {w W w' : World} {p : Option Addr} {c : Nat} {L : List (Sb × Value)} {l : List Sb} {e : TypeId} (h : OwnR encS 4 W.heap.size e w' p c L) (hg : HasG w L) (hl : L.map (·.1) = l) : SbsK w W w' (.slice p l.length c) l := fun W' hb hk => by
  subst hl
  rw [List.length_map]
  refine OwnR.subs (e := e) (base := W.heap.size) ?_ (fun x hx => GnsAt.kept (hg x hx) hb)
  obtain ⟨h1, h2⟩ := h
  refine ⟨h1, ?_⟩
  rcases h2 with h2 | ⟨g, cap, cur, hv, hg2, hh, r⟩
  · exact .inl h2
  · exact .inr ⟨g, cap, cur, hv, hg2, by rw [hk g hg2 (Array.getElem?_eq_some_iff.1 hh).1]; exact hh, r⟩
end Lum
namespace Go.Proofs.YtkjelfmgnkkijaaGreatDoor
open Go.RowKit Go.Shelf Lum
open Go.Lib (decDigits itoa)
attribute [local go_sem] bs_get bs_extract_end bs_extract_from bs_extract bs_append

set_option maxRecDepth 100000 in
set_option maxHeartbeats 8000000 in
theorem r26_without (su : List Sb) (sn : Int) (sv : Value) (w : World) (w0 : World) (hs : SbsAt w0 sv su) (hb0 : Below w0.heap.size w0 w) (h16 : su.length ≤ 16) :
    Calls Tryz.prog 132 #[sv, .int .i64 sn] w fun e w' => ∃ pp cc L, e = .returned (.slice pp L.length cc) ∧ OwnR encS 4 w.heap.size 58 w' pp cc L ∧ HasG w0 L ∧ L.map (·.1) = dropL su sn ∧ Below w.heap.size w w' := by
  have H16 := Lib.hid h16; clear h16
  have HB0 := Lib.hid hb0; clear hb0
  obtain ⟨i0, hi, hz0, hz1, hz2⟩ := info_parts info_sub
  obtain ⟨p, c, rfl, -, hv1⟩ := hs
  have hv2 := Lib.hid hv1; clear hv1
  have HB := Lib.hid (Below.refl w.heap.size w)
  go_enter Tryz.func132, Tryz.ntmps132
  go_wp2_with fail
  go_loopw [5, 6] (fun s i wr => ∃ (k r : Nat) (pp : Option Addr) (cc : Nat) (L : List (Sb × Value)), i = .int .i64 (k : Int) ∧ s = .slice pp L.length cc ∧ Hid (k + r = su.length) ∧ Hid (Below w.heap.size w wr) ∧ Hid (OwnR encS 4 w.heap.size 58 wr pp cc L) ∧ Hid (∀ x ∈ L, GnsAt w0 x.2 x.1.gs) ∧ Hid (L.map (·.1) = dropL (su.take k) sn)) (fun _ i _ => su.length - (intOf i).toNat)
  case atStart => exact ⟨0, su.length, none, 0, [], rfl, rfl, Lib.hid (by omega), HB, Lib.hid (OwnR.nil _ _ _), Lib.hid (fun x h => by cases h), Lib.hid rfl⟩
  case round =>
    obtain ⟨k, r, pp, cc, L, rfl, rfl, hkr, HB2, HO2, HGA2, HL2⟩ := hrel
    clear HB
    have HB := HB2; have HO := HO2; have HGA := HGA2; have HL := HL2; clear HB2 HO2 HGA2 HL2
    cases r with
    | zero =>
      have hlt : ¬ (k : Int) < (su.length : Int) := by have := hkr.out; omega
      have HE : Hid (L.map (·.1) = dropL su sn) := by show _ = _; rw [HL.out, List.take_of_length_le (by have := hkr.out; omega)]
      go_wp2_with fail
      go_ret
      exact ⟨pp, cc, L, rfl, HO.out, HGA.out, HE.out, HB.out⟩
    | succ r =>
      have hkl : k < su.length := by have := hkr.out; omega
      have h16 := H16.out
      have hlt : (k : Int) < (su.length : Int) := by omega
      have hun : IntKind.i64.wrap ((k : Int) + 1) = (k : Int) + 1 := IntWalk.i64_in _ (by omega)
      obtain ⟨b, o, rfl, hb, hC⟩ := hv2.out (fun h => by subst h; simp at hkl)
      have HBW : Hid (Below w0.heap.size w0 wr) := Lib.hid (bch' HB0.out HB.out)
      obtain ⟨gv, gn, hgn⟩ : ∃ gv, w0.cell? ⟨b, o + k * 4 + 3, none⟩ = some gv ∧ GnsAt w0 gv (sbv su k).gs := by obtain ⟨-, -, -, gv, h1, h2⟩ := hC k hkl; exact ⟨gv, h1, h2⟩
      obtain ⟨x1, x2, x3, -⟩ := hC.below HBW.out hb k hkl
      have x4 := (HBW.out.cell (p := ⟨b, o + k * 4 + 3, none⟩) hb).trans gn
      clear hC gn
      have HGN := Lib.hid hgn
      obtain ⟨pg, cg, rfl, -, -⟩ := hgn
      have hbr : b < wr.heap.size := by have := HBW.out.size; omega
      have HLN : Hid (L.length ≤ 17) := Lib.hid (by rw [maps_len HL.out]; have := drop_few (k := k) sn h16; omega)
      clear h16
      by_cases e : (sbv su k).nu = sn
      · have HL3 : Hid (L.map (·.1) = dropL (su.take (k + 1)) sn) := by show _ = _; rw [HL.out, drop_succ sn hkl, dropP_eq e]; simp
        have hq : ((((sbv su k).nu : Int)) != sn) = false := by simpa using e
        clear e
        go_wp2_with fail
        go_roundw
        case rel => exact ⟨k + 1, r, pp, cc, L, by first | rfl | simp, by first | rfl | simp, Lib.hid (by have := hkr.out; omega), HB, HO, HGA, HL3⟩
        case measure => first | (simp [intOf]; done) | (simp [intOf]; omega)
      · have HL3 : Hid ((L ++ [(sbv su k, (Value.slice pg (sbv su k).gs.length cg))]).map (·.1) = dropL (su.take (k + 1)) sn) := by show _ = _; rw [List.map_append, HL.out, drop_succ sn hkl, dropP_ne e]; rfl
        have hq : ((((sbv su k).nu : Int)) != sn) = true := by simpa using e
        clear e
        go_wp2_with (first | (at_builtin; refine wpList_appR2 rfl _ _ 25 rfl w.heap.size 58 i0 (.agg #[.int .i64 0, .int .i64 0, .bool false, .slice none 0 0]) 48 Tryz.underlying25 hi hz0 hz1 hz2 rfl (by decide) (by decide) pp cc L.length L rfl _ (sbv su k, (Value.slice pg (sbv su k).gs.length cg)) wr.heap.size rfl (fun j u hu => cell_new_of wr 58 (by simpa [encS] using hu)) (encS_one HGN.out) rfl (HO.out.keep ((Below.refl _ wr).alloc (Nat.le_refl _) _)) rfl (by have := HLN.out; omega) (by have := HB.out.size; rw [World.size_alloc]; omega) ?_; intro p1 c1 w3 hO3 hb3 hk3; have HO3 := Lib.hid hO3; have HB3 := Lib.hid hb3; clear hO3 hb3 hk3))
        go_roundw
        case rel => exact ⟨k + 1, r, p1, c1, L ++ [(sbv su k, (Value.slice pg (sbv su k).gs.length cg))], by first | rfl | simp, by simp, Lib.hid (by have := hkr.out; omega), Lib.hid (HB.out.trans (((Below.refl _ wr).alloc (by have := HB.out.size; omega) _).trans HB3.out)), HO3, Lib.hid (fun x hx => by rcases List.mem_append.1 hx with h | h; exact HGA.out x h; rw [List.mem_singleton.1 h]; exact HGN.out), HL3⟩
        case measure => first | (simp [intOf]; done) | (simp [intOf]; omega)

end Go.Proofs.YtkjelfmgnkkijaaGreatDoor
