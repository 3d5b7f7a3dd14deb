/-
  Submasters of the reference: Moved, Move.
-/
import Derived.Test.YtkjelfmgnkkijaaGreatDoorSb
import Derived.Test.YtkjelfmgnkkijaaGreatDoorSc
import Derived.Test.YtkjelfmgnkkijaaGreatDoorSq
import Derived.Test.YtkjelfmgnkkijaaGreatDoorGk
import Derived.Deep.RegionHeld3
import Derived.Deep.DeepCutAuto
import Derived.Deep.Cut
import Derived.Outline
set_option linter.unusedVariables false
set_option linter.unusedSimpArgs false
namespace Lum
open Go Go.RowKit Go.Shelf
open Go.Lib (decDigits itoa)
theorem Blk.all6 {w : World} {g : Nat} {t : TypeId} {a0 a1 a2 a3 a4 a5 : Value} (h : Blk w g t #[a0, a1, a2, a3, a4, a5]) (b0 b1 b2 b3 b4 b5 : Value) : Blk ((((((w.setCell ⟨g, 0, none⟩ b0).setCell ⟨g, 1, none⟩ b1).setCell ⟨g, 2, none⟩ b2).setCell ⟨g, 3, none⟩ b3).setCell ⟨g, 4, none⟩ b4).setCell ⟨g, 5, none⟩ b5) g t #[b0, b1, b2, b3, b4, b5] := by
  have h0 : Blk (w.setCell ⟨g, 0, none⟩ b0) g t #[b0, a1, a2, a3, a4, a5] := h.set_ 0 b0
  have h1 : Blk ((w.setCell ⟨g, 0, none⟩ b0).setCell ⟨g, 1, none⟩ b1) g t #[b0, b1, a2, a3, a4, a5] := h0.set_ 1 b1
  have h2 : Blk (((w.setCell ⟨g, 0, none⟩ b0).setCell ⟨g, 1, none⟩ b1).setCell ⟨g, 2, none⟩ b2) g t #[b0, b1, b2, a3, a4, a5] := h1.set_ 2 b2
  have h3 : Blk ((((w.setCell ⟨g, 0, none⟩ b0).setCell ⟨g, 1, none⟩ b1).setCell ⟨g, 2, none⟩ b2).setCell ⟨g, 3, none⟩ b3) g t #[b0, b1, b2, b3, a4, a5] := h2.set_ 3 b3
  have h4 : Blk (((((w.setCell ⟨g, 0, none⟩ b0).setCell ⟨g, 1, none⟩ b1).setCell ⟨g, 2, none⟩ b2).setCell ⟨g, 3, none⟩ b3).setCell ⟨g, 4, none⟩ b4) g t #[b0, b1, b2, b3, b4, a5] := h3.set_ 4 b4
  have h5 : Blk ((((((w.setCell ⟨g, 0, none⟩ b0).setCell ⟨g, 1, none⟩ b1).setCell ⟨g, 2, none⟩ b2).setCell ⟨g, 3, none⟩ b3).setCell ⟨g, 4, none⟩ b4).setCell ⟨g, 5, none⟩ b5) g t #[b0, b1, b2, b3, b4, b5] := h4.set_ 5 b5
  exact h5
theorem use4 {P Q : Prop} (h : P) (f : P → Q) : Q := f h
theorem blkNE {w : World} {t : TypeId} {cs : Array Value} {g : Nat} (h : g = w.heap.size) : Blk (w.alloc (.cells cs t)) g t cs := by
  subst h; exact Blk.new w t cs
theorem keepNew {W w2 : World} {t : TypeId} {cs : Array Value} (h : Below (W.alloc (.cells cs t)).heap.size (W.alloc (.cells cs t)) w2) : Blk w2 W.heap.size t cs := (Blk.new W t cs).keep h
end Lum
namespace Go.Proofs.YtkjelfmgnkkijaaGreatDoor
open Go.RowKit Go.Shelf Lum
open Go.Lib (decDigits itoa)
attribute [local go_sem] bs_get bs_extract_end bs_extract_from bs_extract bs_append

set_option maxRecDepth 100000 in
set_option maxHeartbeats 8000000 in
theorem r26_moved_new (nu pr t xo xi : Int) (inh : Bool) (gs : List Gn) (l : List Fdr) (gv lv : Value) (i : Nat) (w : World) (hv : GnsAt w gv gs) (hl : FdsAt w lv l) (hlen : ∀ i, i < l.length → (fdv l i).fr.length ≤ 1000) (hf0 : facE l = 0) (hb9 : Belongs (fun k => (fdv l k).su) l.length nu i false) :
    Calls Tryz.prog 101 #[.agg #[.int .i64 nu, .int .i64 pr, .bool (inh), gv], lv, .int .i64 t, .int .i64 xo, .int .i64 xi] w fun e w' => ∃ pp cc, e = .returned (.slice pp (insL l i false (mvF nu inh l t xo xi false)).length cc) ∧ OwnR encF 6 w.heap.size 108 w' pp cc (insL l i false (mvF nu inh l t xo xi false)) ∧ Below w.heap.size w w' := by
  obtain ⟨pg, cg, rfl⟩ : ∃ pg cg, gv = .slice pg gs.length cg := by obtain ⟨pg, cg, e, -⟩ := hv; exact ⟨pg, cg, e⟩
  have hf := facOk hf0
  have HIN := Lib.hid hb9
  have HFEW := Lib.hid hf.few
  obtain ⟨i0, hi, hz0, hz1, hz2⟩ := info_parts info_fader
  have HSU := Lib.hid (fadG_su nu inh l)
  have hgl := fun W (h : FdsAt W lv l) => r26_glide nu pr inh l (.slice pg gs.length cg) lv W h (by have := hf.few; omega)
  have hg := fadG_fg (nu := nu) (inh := inh) hf
  have hx := fadG_lenK (nu := nu) (inh := inh) hlen
  unfold fgE at hg
  have hgo := fun W => r3_gone (fadG nu inh l).fr (fadG nu inh l).tz (fadG nu inh l).st (fadG nu inh l).ti t xo xi W hx hg
  change ∀ W, Calls _ _ _ W (fun e w' => e = .returned (.agg #[.string ⟨(showR (lvlQ nu inh l t)).toArray⟩, .int .i64 xo, .int .i64 t, .int .i64 xi]) ∧ _) at hgo
  have hsh := fun W (h : FdsAt W lv l) => r26_shown nu pr t inh l (.slice pg gs.length cg) lv W h (by have := hf.few; omega) hf hlen
  have hat := fun W (h : FdsAt W lv l) => r26_at l nu lv W h (by have := hf.few; omega)
  rw [at_miss hb9] at hat
  have hal := (Below.refl w.heap.size w).alloc (Nat.le_refl _) (.cells #[.int .i64 nu, .int .i64 pr, .bool (inh), (.slice pg gs.length cg)] 58)
  have HL0 := Lib.hid hl
  obtain ⟨p, c, rfl, -, hv1⟩ := hl
  have hv2 := Lib.hid hv1; clear hv1
  have HB := Lib.hid hal; clear hal
  have HK := Lib.hid (Blk.new w 58 #[.int .i64 nu, .int .i64 pr, .bool (inh), (.slice pg gs.length cg)])
  obtain ⟨k0, k1, k2, k3, kf0, kf1, kf2, kf3⟩ := HK.out.c4
  clear hg hx hf hf0 hlen hb9 hv
  generalize htl : showR (lvlQ nu inh l t) = tl at *
  have HTL := Lib.hid htl; clear htl
  have HGL := Lib.hid hgl; clear hgl
  have HGO := Lib.hid hgo; clear hgo
  have HSH := Lib.hid hsh; clear hsh
  have HAT := Lib.hid hat; clear hat
  go_enter Tryz.func101, Tryz.ntmps101
  go_upto_region 1 with fail
  generalize w.alloc (.cells #[.int .i64 nu, .int .i64 pr, .bool (inh), (.slice pg gs.length cg)] 58) = w1 at *
  obtain ⟨SS, hSS⟩ : ∃ SS : World → Prop, ∀ W', SS W' ↔ (Below w.heap.size w W' ∧ Blk W' w.heap.size 58 #[.int .i64 nu, .int .i64 pr, .bool (inh), (.slice pg gs.length cg)]) := ⟨fun W' => Below w.heap.size w W' ∧ Blk W' w.heap.size 58 #[.int .i64 nu, .int .i64 pr, .bool (inh), (.slice pg gs.length cg)], fun _ => Iff.rfl⟩
  have HBO : Hid (∀ W', SS W' → (W'.cell? ⟨w.heap.size, 0, none⟩ = some (.int .i64 nu) ∧ W'.cell? ⟨w.heap.size, 1, none⟩ = some (.int .i64 pr) ∧ W'.cell? ⟨w.heap.size, 2, none⟩ = some (.bool (inh)) ∧ W'.cell? ⟨w.heap.size, 3, none⟩ = some ((.slice pg gs.length cg)) ∧ SS W')) := Lib.hid fun W' hs => by obtain ⟨h1, h2⟩ := (hSS W').1 hs; exact ⟨h2.c4.1, h2.c4.2.1, h2.c4.2.2.1, h2.c4.2.2.2.1, hs⟩
  have HS1 : Hid (SS w1) := Lib.hid ((hSS _).2 ⟨HB.out, HK.out⟩)
  have HKE : Hid (∀ A B, SS A → Below A.heap.size A B → SS B) := Lib.hid fun A B hs hb => by obtain ⟨h1, h2⟩ := (hSS A).1 hs; exact (hSS B).2 ⟨bch' h1 hb, h2.keep hb⟩
  have HKD : Hid (∀ A, SS A → SS A.drew) := Lib.hid fun A h => HKE.out _ _ h ((Below.refl _ _).drew)
  have HKA : Hid (∀ A c, SS A → SS (A.alloc c)) := Lib.hid fun A c h => HKE.out _ _ h ((Below.refl _ _).alloc (Nat.le_refl _) _)
  have HSZ : Hid (∀ W, SS W → w.heap.size + 1 ≤ W.heap.size) := Lib.hid fun W hs => (by have h2 := ((hSS W).1 hs).2.lt; omega)
  have HLB : Hid (∀ W, SS W → FdsAt W (.slice p l.length c) l) := Lib.hid fun W hs => FdsAt.kept HL0.out ((hSS W).1 hs).1
  have HSE : Hid (∀ (A : World) (n : Nat) (v0 v1 v2 v3 v4 v5 : Value), SS A → w.heap.size + 1 ≤ n → SS ((((((A.setCell ⟨n, 0, none⟩ v0).setCell ⟨n, 1, none⟩ v1).setCell ⟨n, 2, none⟩ v2).setCell ⟨n, 3, none⟩ v3).setCell ⟨n, 4, none⟩ v4).setCell ⟨n, 5, none⟩ v5)) := Lib.hid fun A n v0 v1 v2 v3 v4 v5 hs hn => by obtain ⟨h1, h2⟩ := (hSS A).1 hs; have hn0 : w.heap.size ≤ n := (by omega); have hn1 : w.heap.size ≠ n := (by omega); exact (hSS _).2 ⟨(((((h1.setCell hn0 _).setCell hn0 _).setCell hn0 _).setCell hn0 _).setCell hn0 _).setCell hn0 _, (((((h2.far hn1 _).far hn1 _).far hn1 _).far hn1 _).far hn1 _).far hn1 _⟩
  have HFI : Hid (∀ A, SS A → Below w.heap.size w A ∧ Blk A w.heap.size 58 #[.int .i64 nu, .int .i64 pr, .bool (inh), (.slice pg gs.length cg)]) := Lib.hid fun A hs => (hSS A).1 hs
  clear hSS HK HB
  clear k0 k1 k2 k3 kf0 kf1 kf2 kf3
  go_cut [11] (fun s11 wx => ∃ X : Nat, s11 = .pointer (some ⟨X, 0, none⟩) ∧ w.heap.size + 1 ≤ X ∧ Hid (SS wx) ∧ Hid (Blk wx X 108 #[.int .i64 nu, .string ⟨(tl).toArray⟩, .int .i64 xo, .int .i64 t, .int .i64 xi, .int .i64 t]))
  case first =>
    go_region_held3 (fun W' => W'.cell? ⟨w.heap.size, 0, none⟩ = some (.int .i64 nu) ∧ W'.cell? ⟨w.heap.size, 1, none⟩ = some (.int .i64 pr) ∧ W'.cell? ⟨w.heap.size, 2, none⟩ = some (.bool (inh)) ∧ W'.cell? ⟨w.heap.size, 3, none⟩ = some ((.slice pg gs.length cg)) ∧ SS W') (with_reducible refine HBO.out _ ?_; ((repeat (first | with_reducible refine HSE.out _ _ _ _ _ _ _ _ ?_ HZ.1 | with_reducible refine HKE.out _ _ ?_ hb8 | with_reducible refine HKE.out _ _ ?_ hb9 | with_reducible refine HKA.out _ _ ?_ | with_reducible refine HKD.out _ ?_)); with_reducible exact HS1.out)) (first | (go_at_call 150; with_reducible refine (HGL.out _ (HLB.out _ (by ((repeat (first | with_reducible refine HSE.out _ _ _ _ _ _ _ _ ?_ HZ.1 | with_reducible refine HKE.out _ _ ?_ hb8 | with_reducible refine HKE.out _ _ ?_ hb9 | with_reducible refine HKA.out _ _ ?_ | with_reducible refine HKD.out _ ?_)); with_reducible exact HS1.out)))).mono ?_; rintro e w9 ⟨rfl, hb9⟩) | (go_at_call 139; with_reducible refine (HGO.out _).mono ?_; rintro e w8 ⟨rfl, hb8⟩; first | (with_reducible refine use4 (And.intro (HSZ.out _ HS1.out) (Blk.keep (Blk.keep (Blk.drew (blkNE rfl)) hb9) hb8) : w.heap.size + 1 ≤ w1.heap.size ∧ Blk w8 w1.heap.size 108 #[.int .i64 0, .string ⟨#[]⟩, .int .i64 0, .int .i64 0, .int .i64 0, .int .i64 0]) (fun HZ => ?_); obtain ⟨z0, z1, z2, z3, z4, z5, zf0, zf1, zf2, zf3, zf4, zf5⟩ := HZ.2.c6) | (with_reducible refine use4 (And.intro (HSZ.out _ (HKE.out _ _ (HKD.out _ HS1.out) hb9)) (Blk.keep (blkNE rfl) hb8) : w.heap.size + 1 ≤ w9.heap.size ∧ Blk w8 w9.heap.size 108 #[.int .i64 0, .string ⟨#[]⟩, .int .i64 0, .int .i64 0, .int .i64 0, .int .i64 0]) (fun HZ => ?_); obtain ⟨z0, z1, z2, z3, z4, z5, zf0, zf1, zf2, zf3, zf4, zf5⟩ := HZ.2.c6) | skip))
    all_goals (go_wp2_with fail; go_meet; refine ⟨_, rfl, ?_, Lib.hid ?_, Lib.hid ?_⟩)
    all_goals first | ((repeat (first | with_reducible refine HSE.out _ _ _ _ _ _ _ _ ?_ HZ.1 | with_reducible refine HKE.out _ _ ?_ hb8 | with_reducible refine HKE.out _ _ ?_ hb9 | with_reducible refine HKA.out _ _ ?_ | with_reducible refine HKD.out _ ?_)); with_reducible exact HS1.out) | with_reducible exact HZ.1 | exact Blk.all6 HZ.2 _ _ _ _ _ _ | exact blkNE rfl | exact HSZ.out _ (by ((repeat (first | with_reducible refine HSE.out _ _ _ _ _ _ _ _ ?_ HZ.1 | with_reducible refine HKE.out _ _ ?_ hb8 | with_reducible refine HKE.out _ _ ?_ hb9 | with_reducible refine HKA.out _ _ ?_ | with_reducible refine HKD.out _ ?_)); with_reducible exact HS1.out))
  case rest =>
    obtain ⟨X, rfl, hX, HSS, HX⟩ := hcut
    obtain ⟨hB, hK⟩ := HFI.out _ HSS.out
    have HB := Lib.hid hB; have HK := Lib.hid hK; clear hB hK HSS HFI HSE HLB HSZ HKA HKD HKE HS1 HBO
    have HL := Lib.hid (FdsAt.kept HL0.out HB.out)
    obtain ⟨k0, k1, k2, k3, kf0, kf1, kf2, kf3⟩ := HK.out.c4
    obtain ⟨x0, x1, x2, x3, x4, x5, xf0, xf1, xf2, xf3, xf4, xf5⟩ := HX.out.c6
    go_wp2_with fail
    refine ((HAT.out _ HL.out).mono ?_)
    rintro e w2 ⟨rfl, hb⟩
    replace HK := Lib.hid (HK.out.keep hb); clear k0 k1 k2 k3 kf0 kf1 kf2 kf3; replace HX := Lib.hid (HX.out.keep hb); clear x0 x1 x2 x3 x4 x5 xf0 xf1 xf2 xf3 xf4 xf5; replace HL := Lib.hid (FdsAt.kept HL.out hb); replace HB := Lib.hid (bch' HB.out hb); clear hb; obtain ⟨k0, k1, k2, k3, kf0, kf1, kf2, kf3⟩ := HK.out.c4; obtain ⟨x0, x1, x2, x3, x4, x5, xf0, xf1, xf2, xf3, xf4, xf5⟩ := HX.out.c6
    have hi0 : ¬ (0 : Int) ≤ (-1 : Int) := by omega
    go_upto_region 5 with fail
    generalize w2 = w3 at *
    clear hi0
    have HENC : Hid (encF (mvF nu inh l t xo xi false) = [.int .i64 nu, .string ⟨(tl).toArray⟩, .int .i64 xo, .int .i64 t, .int .i64 xi, .int .i64 t]) := Lib.hid (by rw [mvF_new]; show encF ⟨_, _, _, _, _, _⟩ = _; unfold encF; rw [HSU.out, HTL.out])
    have HB0 := HB; have HK1 := HK; have HX1 := HX
    clear HB HK HX
    have HB := Lib.hid (Below.refl w3.heap.size w3)
    have HK := HK1; have HX := HX1
    go_wp2_with fail
    go_loopw [13, 14, 15] (fun s d j wr => ∃ (k r n : Nat) (pp : Option Addr) (cc : Nat), s = .slice pp n cc ∧ d = .bool (decide (i < k)) ∧ j = .int .i64 (k : Int) ∧ Hid (n = (insK l i false (mvF nu inh l t xo xi false) k).length) ∧ Hid (k + r = l.length) ∧ Hid (Below w3.heap.size w3 wr) ∧ Hid (OwnR encF 6 w3.heap.size 108 wr pp cc (insK l i false (mvF nu inh l t xo xi false) k))) (fun _ _ j _ => l.length - (intOf j).toNat)
    case atStart => exact ⟨0, l.length, 0, none, 0, rfl, by rw [decide_eq_false (Nat.not_lt_zero _)], rfl, Lib.hid (by rw [insK_zero]; rfl), Lib.hid (by omega), HB, Lib.hid (by rw [insK_zero]; exact OwnR.nil _ _ _)⟩
    case round =>
      obtain ⟨k, r, n, pp, cc, rfl, rfl, rfl, HN, hkr, HB2, HO2⟩ := hrel
      clear HB
      have HB := HB2; have HO := HO2; clear HB2 HO2
      clear k0 k1 k2 k3 kf0 kf1 kf2 kf3
      clear x0 x1 x2 x3 x4 x5 xf0 xf1 xf2 xf3 xf4 xf5
      have HK := Lib.hid (HK1.out.keep HB.out)
      have HX := Lib.hid (HX1.out.keep HB.out)
      have HBW : Hid (Below w.heap.size w wr) := Lib.hid (bch' HB0.out HB.out)
      obtain ⟨k0, k1, k2, k3, kf0, kf1, kf2, kf3⟩ := HK.out.c4
      obtain ⟨x0, x1, x2, x3, x4, x5, xf0, xf1, xf2, xf3, xf4, xf5⟩ := HX.out.c6
      cases r with
      | zero =>
        have hlt : ¬ (k : Int) < (l.length : Int) := by have := hkr.out; omega
        obtain rfl : k = l.length := by have := hkr.out; omega
        by_cases hil2 : i < l.length
        · have hd : decide (i < l.length) = true := decide_eq_true hil2
          rw [hd]
          have HE : Hid ((insK l i false (mvF nu inh l t xo xi false) l.length) = insL l i false (mvF nu inh l t xo xi false)) := Lib.hid (insK_end hil2)
          rw [HE.out] at HN HO
          have HN2 := HN
          clear HN
          go_wp2_with fail
          go_ret
          obtain rfl := HN2.out
          exact ⟨_, _, rfl, HO.out.lower (by have := HB0.out.size; omega), HBW.out⟩
        · have hil3 : i = l.length := by have := HIN.out.le; omega
          have hd : decide (i < l.length) = false := decide_eq_false hil2
          rw [hd]
          have HE : Hid ((insK l i false (mvF nu inh l t xo xi false) l.length) ++ [(mvF nu inh l t xo xi false)] = insL l i false (mvF nu inh l t xo xi false)) := Lib.hid (by rw [hil3]; exact insK_last)
          clear hil3
          go_wp2_with (first | (at_builtin; refine wpList_appR3 rfl (.tmp 85) (.tmp 87) 26 rfl w3.heap.size 108 i0 (.agg #[.int .i64 0, .string ⟨#[]⟩, .int .i64 0, .int .i64 0, .int .i64 0, .int .i64 0]) 56 Tryz.underlying26 hi hz0 hz1 hz2 rfl (by decide) (by decide) pp cc n ((insK l i false (mvF nu inh l t xo xi false) l.length)) (HN.out) _ ((mvF nu inh l t xo xi false)) wr.heap.size (encF_len _) (fun j u hu => cellN _ 108 (by rw [HENC.out] at hu; exact hu)) (encF_one _) rfl (HO.out.keep ((Below.refl _ wr).alloc (Nat.le_refl _) _)) rfl (by have := insK_len l i false (mvF nu inh l t xo xi false) l.length; have := HFEW.out; omega) (by have := HB.out.size; rw [World.size_alloc]; omega) ?_; intro p1 c1 w4 hO3 hb3 _; have HO3 := Lib.hid hO3; have HB3 := Lib.hid (HB.out.trans (((Below.refl _ wr).alloc (by have := HB.out.size; omega) _).trans hb3)); clear hO3 hb3))
          go_ret
          rw [HE.out] at HO3
          have HN3 : Hid (n + 1 = (insL l i false (mvF nu inh l t xo xi false)).length) := Lib.hid (by rw [← HE.out, List.length_append, ← HN.out]; rfl)
          rw [HN3.out]
          exact ⟨_, _, rfl, HO3.out.lower (by have := HB0.out.size; omega), bch' HB0.out HB3.out⟩
      | succ r =>
        have hkl : k < l.length := by have := hkr.out; omega
        have hlt : (k : Int) < (l.length : Int) := by omega
        have hk9 : l.length ≤ 16 := HFEW.out
        have hun : IntKind.i64.wrap ((k : Int) + 1) = (k : Int) + 1 := IntWalk.i64_in _ (by omega)
        obtain ⟨b, o, rfl, hb, hC⟩ := hv2.out (fun h => by subst h; simp at hkl)
        replace hC : FdsC w b o l := hC
        have HC := Lib.hid hC; clear hC
        obtain ⟨y0, y1, y2, y3, y4, y5⟩ := HC.out.below HBW.out hb k hkl
        have hbr : b < wr.heap.size := by have := HBW.out.size; omega
        have hk0 : (0 : Int) ≤ (k : Int) := by omega
        rcases Nat.lt_trichotomy k i with hki | hki | hki
        · have hge : ¬ nu ≤ (fdv l k).su := by have := HIN.out.bef k hki; omega
          have hne : (((fdv l k).su : Int) != nu) = true := by rw [bne_iff_ne]; omega
          have hd : decide (i < k) = false := decide_eq_false (by omega)
          rw [hd]
          have HD : Hid (decide (i < k + 1) = false) := Lib.hid (decide_eq_false (by omega))
          have HT : Hid ((insK l i false (mvF nu inh l t xo xi false) (k + 1)) = (insK l i false (mvF nu inh l t xo xi false) k) ++ [fdv l k]) := Lib.hid ((insK_lt hki hkl).trans (by rw [fdv_at hkl]))
          go_wp2_with fail
          have f0 := fun p : BelowOf _ => (HK.out.keep p.h).c4.1
          have g0 := fun p : BelowOf _ => BelowOf.cell hbr y0 p
          refine wp_region_WQ (by kernel_rfl) (by kernel_rfl) ?_
          repeat (refine WQ.step (fun K hK => ?_); go_simp; first | (refine hK.out _ ?_; clear hK K) | (apply Exists.intro; refine ⟨fun _ => ?_, hK.out _ ?_⟩; (first | rfl); clear hK K))
          refine WQ.nil ?_
          intro Wq hw'
          obtain ⟨⟨wq, hbq⟩, hw2⟩ := hw'
          subst hw2
          replace HO := Lib.hid (HO.out.keep hbq)
          replace HB := Lib.hid (bch' HB.out hbq)
          clear f0 g0
          clear k0 k1 k2 k3 kf0 kf1 kf2 kf3
          clear x0 x1 x2 x3 x4 x5 xf0 xf1 xf2 xf3 xf4 xf5
          clear HK HX HBW
          clear y0 y1 y2 y3 y4 y5 hbr
          have HK := Lib.hid (HK1.out.keep HB.out)
          have HX := Lib.hid (HX1.out.keep HB.out)
          have HBW : Hid (Below w.heap.size w Wq) := Lib.hid (bch' HB0.out HB.out)
          obtain ⟨k0, k1, k2, k3, kf0, kf1, kf2, kf3⟩ := HK.out.c4
          obtain ⟨x0, x1, x2, x3, x4, x5, xf0, xf1, xf2, xf3, xf4, xf5⟩ := HX.out.c6
          obtain ⟨y0, y1, y2, y3, y4, y5⟩ := HC.out.below HBW.out hb k hkl
          have hbr : b < Wq.heap.size := by have := HBW.out.size; omega
          go_wp2_with fail
          have f0 := fun p : BelowOf _ => (HK.out.keep p.h).c4.1
          have g0 := fun p : BelowOf _ => BelowOf.cell hbr y0 p
          refine wp_region_WQ (by kernel_rfl) (by kernel_rfl) ?_
          repeat (refine WQ.step (fun K hK => ?_); go_simp; first | (refine hK.out _ ?_; clear hK K) | (apply Exists.intro; refine ⟨fun _ => ?_, hK.out _ ?_⟩; (first | rfl); clear hK K))
          refine WQ.nil ?_
          intro Wr hw'
          obtain ⟨⟨wr2, hbr2⟩, hw2⟩ := hw'
          subst hw2
          replace HO := Lib.hid (HO.out.keep hbr2)
          replace HB := Lib.hid (bch' HB.out hbr2)
          clear f0 g0
          clear k0 k1 k2 k3 kf0 kf1 kf2 kf3
          clear x0 x1 x2 x3 x4 x5 xf0 xf1 xf2 xf3 xf4 xf5
          clear HK HX HBW
          clear y0 y1 y2 y3 y4 y5 hbr
          have HK := Lib.hid (HK1.out.keep HB.out)
          have HX := Lib.hid (HX1.out.keep HB.out)
          have HBW : Hid (Below w.heap.size w Wr) := Lib.hid (bch' HB0.out HB.out)
          obtain ⟨k0, k1, k2, k3, kf0, kf1, kf2, kf3⟩ := HK.out.c4
          obtain ⟨x0, x1, x2, x3, x4, x5, xf0, xf1, xf2, xf3, xf4, xf5⟩ := HX.out.c6
          obtain ⟨y0, y1, y2, y3, y4, y5⟩ := HC.out.below HBW.out hb k hkl
          have hbr : b < Wr.heap.size := by have := HBW.out.size; omega
          go_wp2_with (first | (at_builtin; refine wpList_appR3 rfl (.tmp 76) (.tmp 81) 26 rfl w3.heap.size 108 i0 (.agg #[.int .i64 0, .string ⟨#[]⟩, .int .i64 0, .int .i64 0, .int .i64 0, .int .i64 0]) 56 Tryz.underlying26 hi hz0 hz1 hz2 rfl (by decide) (by decide) pp cc n ((insK l i false (mvF nu inh l t xo xi false) k)) (HN.out) _ (fdv l k) Wr.heap.size (encF_len _) (fun j u hu => cellN _ 108 hu) (encF_one _) rfl (HO.out.keep ((Below.refl _ Wr).alloc (Nat.le_refl _) _)) rfl (by have := insK_len l i false (mvF nu inh l t xo xi false) k; have := HFEW.out; omega) (by have := HB.out.size; rw [World.size_alloc]; omega) ?_; intro p1 c1 w4 hO3 hb3 _; have HO3 := Lib.hid hO3; have HB3 := Lib.hid (HB.out.trans (((Below.refl _ Wr).alloc (by have := HB.out.size; omega) _).trans hb3)); clear hO3 hb3))
          clear HB
          have HB := HB3; clear HB3
          go_roundw
          case rel => exact ⟨k + 1, r, n + 1, p1, c1, by first | rfl | simp, by rw [HD.out], by first | rfl | simp, Lib.hid (by rw [HT.out, List.length_append, ← HN.out]; rfl), Lib.hid (by have := hkr.out; omega), HB, Lib.hid (by rw [HT.out]; exact HO3.out)⟩
          case measure => first | (simp [intOf]; done) | (simp [intOf]; omega)
        · obtain rfl : i = k := by omega
          have hd : decide (i < i) = false := decide_eq_false (Nat.lt_irrefl _)
          rw [hd]
          have HD : Hid (decide (i < i + 1) = true) := Lib.hid (decide_eq_true (Nat.lt_succ_self _))
          have hge : nu ≤ (fdv l i).su := by have := HIN.out.no rfl i (Nat.le_refl _) hkl; omega
          have hne : (((fdv l i).su : Int) != nu) = true := by have := HIN.out.no rfl i (Nat.le_refl _) hkl; rw [bne_iff_ne]; omega
          have HT : Hid ((insK l i false (mvF nu inh l t xo xi false) (i + 1)) = ((insK l i false (mvF nu inh l t xo xi false) i) ++ [(mvF nu inh l t xo xi false)]) ++ [fdv l i]) := Lib.hid ((insK_miss hkl).trans (by rw [fdv_at hkl]))
          go_wp2_with fail
          have f0 := fun p : BelowOf _ => (HK.out.keep p.h).c4.1
          have g0 := fun p : BelowOf _ => BelowOf.cell hbr y0 p
          refine wp_region_WQ (by kernel_rfl) (by kernel_rfl) ?_
          repeat (refine WQ.step (fun K hK => ?_); go_simp; first | (refine hK.out _ ?_; clear hK K) | (apply Exists.intro; refine ⟨fun _ => ?_, hK.out _ ?_⟩; (first | rfl); clear hK K))
          refine WQ.nil ?_
          intro Wq hw'
          obtain ⟨⟨wq, hbq⟩, hw2⟩ := hw'
          subst hw2
          replace HO := Lib.hid (HO.out.keep hbq)
          replace HB := Lib.hid (bch' HB.out hbq)
          clear f0 g0
          clear k0 k1 k2 k3 kf0 kf1 kf2 kf3
          clear x0 x1 x2 x3 x4 x5 xf0 xf1 xf2 xf3 xf4 xf5
          clear HK HX HBW
          clear y0 y1 y2 y3 y4 y5 hbr
          have HK := Lib.hid (HK1.out.keep HB.out)
          have HX := Lib.hid (HX1.out.keep HB.out)
          have HBW : Hid (Below w.heap.size w Wq) := Lib.hid (bch' HB0.out HB.out)
          obtain ⟨k0, k1, k2, k3, kf0, kf1, kf2, kf3⟩ := HK.out.c4
          obtain ⟨x0, x1, x2, x3, x4, x5, xf0, xf1, xf2, xf3, xf4, xf5⟩ := HX.out.c6
          obtain ⟨y0, y1, y2, y3, y4, y5⟩ := HC.out.below HBW.out hb i hkl
          have hbr : b < Wq.heap.size := by have := HBW.out.size; omega
          go_wp2_with (first | (at_builtin; refine wpList_appR3 rfl (.tmp 64) (.tmp 66) 26 rfl w3.heap.size 108 i0 (.agg #[.int .i64 0, .string ⟨#[]⟩, .int .i64 0, .int .i64 0, .int .i64 0, .int .i64 0]) 56 Tryz.underlying26 hi hz0 hz1 hz2 rfl (by decide) (by decide) pp cc n ((insK l i false (mvF nu inh l t xo xi false) i)) (HN.out) _ ((mvF nu inh l t xo xi false)) Wq.heap.size (encF_len _) (fun j u hu => cellN _ 108 (by rw [HENC.out] at hu; exact hu)) (encF_one _) rfl (HO.out.keep ((Below.refl _ Wq).alloc (Nat.le_refl _) _)) rfl (by have := insK_len l i false (mvF nu inh l t xo xi false) i; have := HFEW.out; omega) (by have := HB.out.size; rw [World.size_alloc]; omega) ?_; intro p1 c1 w4 hO3 hb3 _; have HO3 := Lib.hid hO3; have HB3 := Lib.hid (HB.out.trans (((Below.refl _ Wq).alloc (by have := HB.out.size; omega) _).trans hb3)); clear hO3 hb3))
          clear k0 k1 k2 k3 kf0 kf1 kf2 kf3
          clear x0 x1 x2 x3 x4 x5 xf0 xf1 xf2 xf3 xf4 xf5
          clear HK HX HBW
          clear y0 y1 y2 y3 y4 y5 hbr
          clear HB HO
          have HB := HB3; have HO := HO3; clear HB3 HO3
          have HN1 : Hid (n + 1 = ((insK l i false (mvF nu inh l t xo xi false) i) ++ [(mvF nu inh l t xo xi false)]).length) := Lib.hid (by rw [List.length_append, ← HN.out]; rfl)
          have HK := Lib.hid (HK1.out.keep HB.out)
          have HX := Lib.hid (HX1.out.keep HB.out)
          have HBW : Hid (Below w.heap.size w w4) := Lib.hid (bch' HB0.out HB.out)
          obtain ⟨k0, k1, k2, k3, kf0, kf1, kf2, kf3⟩ := HK.out.c4
          obtain ⟨x0, x1, x2, x3, x4, x5, xf0, xf1, xf2, xf3, xf4, xf5⟩ := HX.out.c6
          obtain ⟨y0, y1, y2, y3, y4, y5⟩ := HC.out.below HBW.out hb i hkl
          have hbr : b < w4.heap.size := by have := HBW.out.size; omega
          have f0 := fun p : BelowOf _ => (HK.out.keep p.h).c4.1
          have g0 := fun p : BelowOf _ => BelowOf.cell hbr y0 p
          refine wp_region_WQ (by kernel_rfl) (by kernel_rfl) ?_
          repeat (refine WQ.step (fun K hK => ?_); go_simp; first | (refine hK.out _ ?_; clear hK K) | (apply Exists.intro; refine ⟨fun _ => ?_, hK.out _ ?_⟩; (first | rfl); clear hK K))
          refine WQ.nil ?_
          intro Wr hw'
          obtain ⟨⟨wr2, hbr2⟩, hw2⟩ := hw'
          subst hw2
          replace HO := Lib.hid (HO.out.keep hbr2)
          replace HB := Lib.hid (bch' HB.out hbr2)
          clear f0 g0
          clear k0 k1 k2 k3 kf0 kf1 kf2 kf3
          clear x0 x1 x2 x3 x4 x5 xf0 xf1 xf2 xf3 xf4 xf5
          clear HK HX HBW
          clear y0 y1 y2 y3 y4 y5 hbr
          have HK := Lib.hid (HK1.out.keep HB.out)
          have HX := Lib.hid (HX1.out.keep HB.out)
          have HBW : Hid (Below w.heap.size w Wr) := Lib.hid (bch' HB0.out HB.out)
          obtain ⟨k0, k1, k2, k3, kf0, kf1, kf2, kf3⟩ := HK.out.c4
          obtain ⟨x0, x1, x2, x3, x4, x5, xf0, xf1, xf2, xf3, xf4, xf5⟩ := HX.out.c6
          obtain ⟨y0, y1, y2, y3, y4, y5⟩ := HC.out.below HBW.out hb i hkl
          have hbr : b < Wr.heap.size := by have := HBW.out.size; omega
          go_wp2_with (first | (at_builtin; refine wpList_appR3 rfl (.tmp 76) (.tmp 81) 26 rfl w3.heap.size 108 i0 (.agg #[.int .i64 0, .string ⟨#[]⟩, .int .i64 0, .int .i64 0, .int .i64 0, .int .i64 0]) 56 Tryz.underlying26 hi hz0 hz1 hz2 rfl (by decide) (by decide) p1 c1 (n + 1) (((insK l i false (mvF nu inh l t xo xi false) i) ++ [(mvF nu inh l t xo xi false)])) (HN1.out) _ (fdv l i) Wr.heap.size (encF_len _) (fun j u hu => cellN _ 108 hu) (encF_one _) rfl (HO.out.keep ((Below.refl _ Wr).alloc (Nat.le_refl _) _)) rfl (by have := insK_len l i false (mvF nu inh l t xo xi false) i; have := HFEW.out; rw [List.length_append]; simp; omega) (by have := HB.out.size; rw [World.size_alloc]; omega) ?_; intro p2 c2 w5 hO3 hb3 _; have HO3 := Lib.hid hO3; have HB3 := Lib.hid (HB.out.trans (((Below.refl _ Wr).alloc (by have := HB.out.size; omega) _).trans hb3)); clear hO3 hb3))
          clear HB
          have HB := HB3; clear HB3
          go_roundw
          case rel => exact ⟨i + 1, r, n + 1 + 1, p2, c2, by first | rfl | simp, by rw [HD.out], by first | rfl | simp, Lib.hid (by rw [HT.out, List.length_append, ← HN1.out]; rfl), Lib.hid (by have := hkr.out; omega), HB, Lib.hid (by rw [HT.out]; exact HO3.out)⟩
          case measure => first | (simp [intOf]; done) | (simp [intOf]; omega)
        · have hge : nu < (fdv l k).su := HIN.out.aft k hki hkl
          have hne : (((fdv l k).su : Int) != nu) = true := by rw [bne_iff_ne]; omega
          have hd : decide (i < k) = true := decide_eq_true hki
          rw [hd]
          have HD : Hid (decide (i < k + 1) = true) := Lib.hid (decide_eq_true (by omega))
          have HT : Hid ((insK l i false (mvF nu inh l t xo xi false) (k + 1)) = (insK l i false (mvF nu inh l t xo xi false) k) ++ [fdv l k]) := Lib.hid ((insK_gt hki hkl).trans (by rw [fdv_at hkl]))
          go_wp2_with fail
          have f0 := fun p : BelowOf _ => (HK.out.keep p.h).c4.1
          have g0 := fun p : BelowOf _ => BelowOf.cell hbr y0 p
          refine wp_region_WQ (by kernel_rfl) (by kernel_rfl) ?_
          repeat (refine WQ.step (fun K hK => ?_); go_simp; first | (refine hK.out _ ?_; clear hK K) | (apply Exists.intro; refine ⟨fun _ => ?_, hK.out _ ?_⟩; (first | rfl); clear hK K))
          refine WQ.nil ?_
          intro Wq hw'
          obtain ⟨⟨wq, hbq⟩, hw2⟩ := hw'
          subst hw2
          replace HO := Lib.hid (HO.out.keep hbq)
          replace HB := Lib.hid (bch' HB.out hbq)
          clear f0 g0
          clear k0 k1 k2 k3 kf0 kf1 kf2 kf3
          clear x0 x1 x2 x3 x4 x5 xf0 xf1 xf2 xf3 xf4 xf5
          clear HK HX HBW
          clear y0 y1 y2 y3 y4 y5 hbr
          have HK := Lib.hid (HK1.out.keep HB.out)
          have HX := Lib.hid (HX1.out.keep HB.out)
          have HBW : Hid (Below w.heap.size w Wq) := Lib.hid (bch' HB0.out HB.out)
          obtain ⟨k0, k1, k2, k3, kf0, kf1, kf2, kf3⟩ := HK.out.c4
          obtain ⟨x0, x1, x2, x3, x4, x5, xf0, xf1, xf2, xf3, xf4, xf5⟩ := HX.out.c6
          obtain ⟨y0, y1, y2, y3, y4, y5⟩ := HC.out.below HBW.out hb k hkl
          have hbr : b < Wq.heap.size := by have := HBW.out.size; omega
          go_wp2_with fail
          have f0 := fun p : BelowOf _ => (HK.out.keep p.h).c4.1
          have g0 := fun p : BelowOf _ => BelowOf.cell hbr y0 p
          refine wp_region_WQ (by kernel_rfl) (by kernel_rfl) ?_
          repeat (refine WQ.step (fun K hK => ?_); go_simp; first | (refine hK.out _ ?_; clear hK K) | (apply Exists.intro; refine ⟨fun _ => ?_, hK.out _ ?_⟩; (first | rfl); clear hK K))
          refine WQ.nil ?_
          intro Wr hw'
          obtain ⟨⟨wr2, hbr2⟩, hw2⟩ := hw'
          subst hw2
          replace HO := Lib.hid (HO.out.keep hbr2)
          replace HB := Lib.hid (bch' HB.out hbr2)
          clear f0 g0
          clear k0 k1 k2 k3 kf0 kf1 kf2 kf3
          clear x0 x1 x2 x3 x4 x5 xf0 xf1 xf2 xf3 xf4 xf5
          clear HK HX HBW
          clear y0 y1 y2 y3 y4 y5 hbr
          have HK := Lib.hid (HK1.out.keep HB.out)
          have HX := Lib.hid (HX1.out.keep HB.out)
          have HBW : Hid (Below w.heap.size w Wr) := Lib.hid (bch' HB0.out HB.out)
          obtain ⟨k0, k1, k2, k3, kf0, kf1, kf2, kf3⟩ := HK.out.c4
          obtain ⟨x0, x1, x2, x3, x4, x5, xf0, xf1, xf2, xf3, xf4, xf5⟩ := HX.out.c6
          obtain ⟨y0, y1, y2, y3, y4, y5⟩ := HC.out.below HBW.out hb k hkl
          have hbr : b < Wr.heap.size := by have := HBW.out.size; omega
          go_wp2_with (first | (at_builtin; refine wpList_appR3 rfl (.tmp 76) (.tmp 81) 26 rfl w3.heap.size 108 i0 (.agg #[.int .i64 0, .string ⟨#[]⟩, .int .i64 0, .int .i64 0, .int .i64 0, .int .i64 0]) 56 Tryz.underlying26 hi hz0 hz1 hz2 rfl (by decide) (by decide) pp cc n ((insK l i false (mvF nu inh l t xo xi false) k)) (HN.out) _ (fdv l k) Wr.heap.size (encF_len _) (fun j u hu => cellN _ 108 hu) (encF_one _) rfl (HO.out.keep ((Below.refl _ Wr).alloc (Nat.le_refl _) _)) rfl (by have := insK_len l i false (mvF nu inh l t xo xi false) k; have := HFEW.out; omega) (by have := HB.out.size; rw [World.size_alloc]; omega) ?_; intro p1 c1 w4 hO3 hb3 _; have HO3 := Lib.hid hO3; have HB3 := Lib.hid (HB.out.trans (((Below.refl _ Wr).alloc (by have := HB.out.size; omega) _).trans hb3)); clear hO3 hb3))
          clear HB
          have HB := HB3; clear HB3
          go_roundw
          case rel => exact ⟨k + 1, r, n + 1, p1, c1, by first | rfl | simp, by rw [HD.out], by first | rfl | simp, Lib.hid (by rw [HT.out, List.length_append, ← HN.out]; rfl), Lib.hid (by have := hkr.out; omega), HB, Lib.hid (by rw [HT.out]; exact HO3.out)⟩
          case measure => first | (simp [intOf]; done) | (simp [intOf]; omega)

set_option maxRecDepth 100000 in
set_option maxHeartbeats 8000000 in
theorem r26_moved_zero (nu pr t xo xi : Int) (inh : Bool) (gs : List Gn) (l : List Fdr) (gv lv : Value) (i : Nat) (w : World) (hv : GnsAt w gv gs) (hl : FdsAt w lv l) (hlen : ∀ i, i < l.length → (fdv l i).fr.length ≤ 1000) (hf0 : facE l = 0) (hb9 : Belongs (fun k => (fdv l k).su) l.length nu i true) (hz : lvlQ nu inh l t = 0) :
    Calls Tryz.prog 101 #[.agg #[.int .i64 nu, .int .i64 pr, .bool (inh), gv], lv, .int .i64 t, .int .i64 xo, .int .i64 xi] w fun e w' => ∃ pp cc, e = .returned (.slice pp (insL l i true (mvF nu inh l t xo xi true)).length cc) ∧ OwnR encF 6 w.heap.size 108 w' pp cc (insL l i true (mvF nu inh l t xo xi true)) ∧ Below w.heap.size w w' := by
  obtain ⟨pg, cg, rfl⟩ : ∃ pg cg, gv = .slice pg gs.length cg := by obtain ⟨pg, cg, e, -⟩ := hv; exact ⟨pg, cg, e⟩
  have hf := facOk hf0
  have HIN := Lib.hid hb9
  have HFEW := Lib.hid hf.few
  obtain ⟨i0, hi, hz0, hz1, hz2⟩ := info_parts info_fader
  have HSU := Lib.hid (fadG_su nu inh l)
  have hgl := fun W (h : FdsAt W lv l) => r26_glide nu pr inh l (.slice pg gs.length cg) lv W h (by have := hf.few; omega)
  have hg := fadG_fg (nu := nu) (inh := inh) hf
  have hx := fadG_lenK (nu := nu) (inh := inh) hlen
  unfold fgE at hg
  have hgo := fun W => r3_gone (fadG nu inh l).fr (fadG nu inh l).tz (fadG nu inh l).st (fadG nu inh l).ti t xo xi W hx hg
  change ∀ W, Calls _ _ _ W (fun e w' => e = .returned (.agg #[.string ⟨(showR (lvlQ nu inh l t)).toArray⟩, .int .i64 xo, .int .i64 t, .int .i64 xi]) ∧ _) at hgo
  have hsh := fun W (h : FdsAt W lv l) => r26_shown nu pr t inh l (.slice pg gs.length cg) lv W h (by have := hf.few; omega) hf hlen
  have hat := fun W (h : FdsAt W lv l) => r26_at l nu lv W h (by have := hf.few; omega)
  rw [at_hit hb9] at hat
  have hl0 : (showR (lvlQ nu inh l t) == [48]) = true := by rw [hz, showR_zero]; rfl
  have hl1 : (showR (lvlQ nu inh l t) != [48]) = false := by rw [bne, hl0]; rfl
  have HZ := Lib.hid hz; clear hz
  have hal := (Below.refl w.heap.size w).alloc (Nat.le_refl _) (.cells #[.int .i64 nu, .int .i64 pr, .bool (inh), (.slice pg gs.length cg)] 58)
  have HL0 := Lib.hid hl
  obtain ⟨p, c, rfl, -, hv1⟩ := hl
  have hv2 := Lib.hid hv1; clear hv1
  have HB := Lib.hid hal; clear hal
  have HK := Lib.hid (Blk.new w 58 #[.int .i64 nu, .int .i64 pr, .bool (inh), (.slice pg gs.length cg)])
  obtain ⟨k0, k1, k2, k3, kf0, kf1, kf2, kf3⟩ := HK.out.c4
  clear hg hx hf hf0 hlen hb9 hv
  generalize htl : showR (lvlQ nu inh l t) = tl at *
  have HTL := Lib.hid htl; clear htl
  have HGL := Lib.hid hgl; clear hgl
  have HGO := Lib.hid hgo; clear hgo
  have HSH := Lib.hid hsh; clear hsh
  have HAT := Lib.hid hat; clear hat
  go_enter Tryz.func101, Tryz.ntmps101
  go_upto_region 1 with fail
  generalize w.alloc (.cells #[.int .i64 nu, .int .i64 pr, .bool (inh), (.slice pg gs.length cg)] 58) = w1 at *
  obtain ⟨SS, hSS⟩ : ∃ SS : World → Prop, ∀ W', SS W' ↔ (Below w.heap.size w W' ∧ Blk W' w.heap.size 58 #[.int .i64 nu, .int .i64 pr, .bool (inh), (.slice pg gs.length cg)]) := ⟨fun W' => Below w.heap.size w W' ∧ Blk W' w.heap.size 58 #[.int .i64 nu, .int .i64 pr, .bool (inh), (.slice pg gs.length cg)], fun _ => Iff.rfl⟩
  have HBO : Hid (∀ W', SS W' → (W'.cell? ⟨w.heap.size, 0, none⟩ = some (.int .i64 nu) ∧ W'.cell? ⟨w.heap.size, 1, none⟩ = some (.int .i64 pr) ∧ W'.cell? ⟨w.heap.size, 2, none⟩ = some (.bool (inh)) ∧ W'.cell? ⟨w.heap.size, 3, none⟩ = some ((.slice pg gs.length cg)) ∧ SS W')) := Lib.hid fun W' hs => by obtain ⟨h1, h2⟩ := (hSS W').1 hs; exact ⟨h2.c4.1, h2.c4.2.1, h2.c4.2.2.1, h2.c4.2.2.2.1, hs⟩
  have HS1 : Hid (SS w1) := Lib.hid ((hSS _).2 ⟨HB.out, HK.out⟩)
  have HKE : Hid (∀ A B, SS A → Below A.heap.size A B → SS B) := Lib.hid fun A B hs hb => by obtain ⟨h1, h2⟩ := (hSS A).1 hs; exact (hSS B).2 ⟨bch' h1 hb, h2.keep hb⟩
  have HKD : Hid (∀ A, SS A → SS A.drew) := Lib.hid fun A h => HKE.out _ _ h ((Below.refl _ _).drew)
  have HKA : Hid (∀ A c, SS A → SS (A.alloc c)) := Lib.hid fun A c h => HKE.out _ _ h ((Below.refl _ _).alloc (Nat.le_refl _) _)
  have HSZ : Hid (∀ W, SS W → w.heap.size + 1 ≤ W.heap.size) := Lib.hid fun W hs => (by have h2 := ((hSS W).1 hs).2.lt; omega)
  have HLB : Hid (∀ W, SS W → FdsAt W (.slice p l.length c) l) := Lib.hid fun W hs => FdsAt.kept HL0.out ((hSS W).1 hs).1
  have HSE : Hid (∀ (A : World) (n : Nat) (v0 v1 v2 v3 v4 v5 : Value), SS A → w.heap.size + 1 ≤ n → SS ((((((A.setCell ⟨n, 0, none⟩ v0).setCell ⟨n, 1, none⟩ v1).setCell ⟨n, 2, none⟩ v2).setCell ⟨n, 3, none⟩ v3).setCell ⟨n, 4, none⟩ v4).setCell ⟨n, 5, none⟩ v5)) := Lib.hid fun A n v0 v1 v2 v3 v4 v5 hs hn => by obtain ⟨h1, h2⟩ := (hSS A).1 hs; have hn0 : w.heap.size ≤ n := (by omega); have hn1 : w.heap.size ≠ n := (by omega); exact (hSS _).2 ⟨(((((h1.setCell hn0 _).setCell hn0 _).setCell hn0 _).setCell hn0 _).setCell hn0 _).setCell hn0 _, (((((h2.far hn1 _).far hn1 _).far hn1 _).far hn1 _).far hn1 _).far hn1 _⟩
  have HFI : Hid (∀ A, SS A → Below w.heap.size w A ∧ Blk A w.heap.size 58 #[.int .i64 nu, .int .i64 pr, .bool (inh), (.slice pg gs.length cg)]) := Lib.hid fun A hs => (hSS A).1 hs
  clear hSS HK HB
  clear k0 k1 k2 k3 kf0 kf1 kf2 kf3
  go_cut [11] (fun s11 wx => ∃ X : Nat, s11 = .pointer (some ⟨X, 0, none⟩) ∧ w.heap.size + 1 ≤ X ∧ Hid (SS wx) ∧ Hid (Blk wx X 108 #[.int .i64 nu, .string ⟨(tl).toArray⟩, .int .i64 xo, .int .i64 t, .int .i64 xi, .int .i64 t]))
  case first =>
    go_region_held3 (fun W' => W'.cell? ⟨w.heap.size, 0, none⟩ = some (.int .i64 nu) ∧ W'.cell? ⟨w.heap.size, 1, none⟩ = some (.int .i64 pr) ∧ W'.cell? ⟨w.heap.size, 2, none⟩ = some (.bool (inh)) ∧ W'.cell? ⟨w.heap.size, 3, none⟩ = some ((.slice pg gs.length cg)) ∧ SS W') (with_reducible refine HBO.out _ ?_; ((repeat (first | with_reducible refine HSE.out _ _ _ _ _ _ _ _ ?_ HZ.1 | with_reducible refine HKE.out _ _ ?_ hb8 | with_reducible refine HKE.out _ _ ?_ hb9 | with_reducible refine HKA.out _ _ ?_ | with_reducible refine HKD.out _ ?_)); with_reducible exact HS1.out)) (first | (go_at_call 150; with_reducible refine (HGL.out _ (HLB.out _ (by ((repeat (first | with_reducible refine HSE.out _ _ _ _ _ _ _ _ ?_ HZ.1 | with_reducible refine HKE.out _ _ ?_ hb8 | with_reducible refine HKE.out _ _ ?_ hb9 | with_reducible refine HKA.out _ _ ?_ | with_reducible refine HKD.out _ ?_)); with_reducible exact HS1.out)))).mono ?_; rintro e w9 ⟨rfl, hb9⟩) | (go_at_call 139; with_reducible refine (HGO.out _).mono ?_; rintro e w8 ⟨rfl, hb8⟩; first | (with_reducible refine use4 (And.intro (HSZ.out _ HS1.out) (Blk.keep (Blk.keep (Blk.drew (blkNE rfl)) hb9) hb8) : w.heap.size + 1 ≤ w1.heap.size ∧ Blk w8 w1.heap.size 108 #[.int .i64 0, .string ⟨#[]⟩, .int .i64 0, .int .i64 0, .int .i64 0, .int .i64 0]) (fun HZ => ?_); obtain ⟨z0, z1, z2, z3, z4, z5, zf0, zf1, zf2, zf3, zf4, zf5⟩ := HZ.2.c6) | (with_reducible refine use4 (And.intro (HSZ.out _ (HKE.out _ _ (HKD.out _ HS1.out) hb9)) (Blk.keep (blkNE rfl) hb8) : w.heap.size + 1 ≤ w9.heap.size ∧ Blk w8 w9.heap.size 108 #[.int .i64 0, .string ⟨#[]⟩, .int .i64 0, .int .i64 0, .int .i64 0, .int .i64 0]) (fun HZ => ?_); obtain ⟨z0, z1, z2, z3, z4, z5, zf0, zf1, zf2, zf3, zf4, zf5⟩ := HZ.2.c6) | skip))
    all_goals (go_wp2_with fail; go_meet; refine ⟨_, rfl, ?_, Lib.hid ?_, Lib.hid ?_⟩)
    all_goals first | ((repeat (first | with_reducible refine HSE.out _ _ _ _ _ _ _ _ ?_ HZ.1 | with_reducible refine HKE.out _ _ ?_ hb8 | with_reducible refine HKE.out _ _ ?_ hb9 | with_reducible refine HKA.out _ _ ?_ | with_reducible refine HKD.out _ ?_)); with_reducible exact HS1.out) | with_reducible exact HZ.1 | exact Blk.all6 HZ.2 _ _ _ _ _ _ | exact blkNE rfl | exact HSZ.out _ (by ((repeat (first | with_reducible refine HSE.out _ _ _ _ _ _ _ _ ?_ HZ.1 | with_reducible refine HKE.out _ _ ?_ hb8 | with_reducible refine HKE.out _ _ ?_ hb9 | with_reducible refine HKA.out _ _ ?_ | with_reducible refine HKD.out _ ?_)); with_reducible exact HS1.out))
  case rest =>
    obtain ⟨X, rfl, hX, HSS, HX⟩ := hcut
    obtain ⟨hB, hK⟩ := HFI.out _ HSS.out
    have HB := Lib.hid hB; have HK := Lib.hid hK; clear hB hK HSS HFI HSE HLB HSZ HKA HKD HKE HS1 HBO
    have HL := Lib.hid (FdsAt.kept HL0.out HB.out)
    obtain ⟨k0, k1, k2, k3, kf0, kf1, kf2, kf3⟩ := HK.out.c4
    obtain ⟨x0, x1, x2, x3, x4, x5, xf0, xf1, xf2, xf3, xf4, xf5⟩ := HX.out.c6
    go_wp2_with fail
    refine ((HAT.out _ HL.out).mono ?_)
    rintro e w2 ⟨rfl, hb⟩
    replace HK := Lib.hid (HK.out.keep hb); clear k0 k1 k2 k3 kf0 kf1 kf2 kf3; replace HX := Lib.hid (HX.out.keep hb); clear x0 x1 x2 x3 x4 x5 xf0 xf1 xf2 xf3 xf4 xf5; replace HL := Lib.hid (FdsAt.kept HL.out hb); replace HB := Lib.hid (bch' HB.out hb); clear hb; obtain ⟨k0, k1, k2, k3, kf0, kf1, kf2, kf3⟩ := HK.out.c4; obtain ⟨x0, x1, x2, x3, x4, x5, xf0, xf1, xf2, xf3, xf4, xf5⟩ := HX.out.c6
    have hi0 : (0 : Int) ≤ (i : Int) := by omega
    go_upto_region 5 with (first | (with_reducible refine ((HSH.out _ HL.out).mono ?_); rintro e w' ⟨rfl, hb⟩; replace HK := Lib.hid (HK.out.keep hb); clear k0 k1 k2 k3 kf0 kf1 kf2 kf3; replace HX := Lib.hid (HX.out.keep hb); clear x0 x1 x2 x3 x4 x5 xf0 xf1 xf2 xf3 xf4 xf5; replace HL := Lib.hid (FdsAt.kept HL.out hb); replace HB := Lib.hid (bch' HB.out hb); clear hb; obtain ⟨k0, k1, k2, k3, kf0, kf1, kf2, kf3⟩ := HK.out.c4; obtain ⟨x0, x1, x2, x3, x4, x5, xf0, xf1, xf2, xf3, xf4, xf5⟩ := HX.out.c6))
    generalize w' = w3 at *
    clear hi0
    have HENC : Hid (encF (mvF nu inh l t xo xi true) = [.int .i64 nu, .string ⟨(tl).toArray⟩, .int .i64 xo, .int .i64 t, .int .i64 xi, .int .i64 t]) := Lib.hid (by rw [mvF_zero HZ.out]; show encF ⟨_, _, _, _, _, _⟩ = _; unfold encF; rw [HSU.out, HTL.out])
    have HB0 := HB; have HK1 := HK; have HX1 := HX
    clear HB HK HX
    have HB := Lib.hid (Below.refl w3.heap.size w3)
    have HK := HK1; have HX := HX1
    go_wp2_with fail
    go_loopw [13, 14, 15] (fun s d j wr => ∃ (k r n : Nat) (pp : Option Addr) (cc : Nat), s = .slice pp n cc ∧ d = .bool (decide (i < k)) ∧ j = .int .i64 (k : Int) ∧ Hid (n = (insK l i true (mvF nu inh l t xo xi true) k).length) ∧ Hid (k + r = l.length) ∧ Hid (Below w3.heap.size w3 wr) ∧ Hid (OwnR encF 6 w3.heap.size 108 wr pp cc (insK l i true (mvF nu inh l t xo xi true) k))) (fun _ _ j _ => l.length - (intOf j).toNat)
    case atStart => exact ⟨0, l.length, 0, none, 0, rfl, by rw [decide_eq_false (Nat.not_lt_zero _)], rfl, Lib.hid (by rw [insK_zero]; rfl), Lib.hid (by omega), HB, Lib.hid (by rw [insK_zero]; exact OwnR.nil _ _ _)⟩
    case round =>
      obtain ⟨k, r, n, pp, cc, rfl, rfl, rfl, HN, hkr, HB2, HO2⟩ := hrel
      clear HB
      have HB := HB2; have HO := HO2; clear HB2 HO2
      clear k0 k1 k2 k3 kf0 kf1 kf2 kf3
      clear x0 x1 x2 x3 x4 x5 xf0 xf1 xf2 xf3 xf4 xf5
      have HK := Lib.hid (HK1.out.keep HB.out)
      have HX := Lib.hid (HX1.out.keep HB.out)
      have HBW : Hid (Below w.heap.size w wr) := Lib.hid (bch' HB0.out HB.out)
      obtain ⟨k0, k1, k2, k3, kf0, kf1, kf2, kf3⟩ := HK.out.c4
      obtain ⟨x0, x1, x2, x3, x4, x5, xf0, xf1, xf2, xf3, xf4, xf5⟩ := HX.out.c6
      cases r with
      | zero =>
        have hlt : ¬ (k : Int) < (l.length : Int) := by have := hkr.out; omega
        obtain rfl : k = l.length := by have := hkr.out; omega
        have hil2 : i < l.length := (HIN.out.yes rfl).1
        have hd : decide (i < l.length) = true := decide_eq_true hil2
        rw [hd]
        have HE : Hid ((insK l i true (mvF nu inh l t xo xi true) l.length) = insL l i true (mvF nu inh l t xo xi true)) := Lib.hid (insK_end hil2)
        rw [HE.out] at HN HO
        have HN2 := HN
        clear HN
        go_wp2_with fail
        go_ret
        obtain rfl := HN2.out
        exact ⟨_, _, rfl, HO.out.lower (by have := HB0.out.size; omega), HBW.out⟩
      | succ r =>
        have hkl : k < l.length := by have := hkr.out; omega
        have hlt : (k : Int) < (l.length : Int) := by omega
        have hk9 : l.length ≤ 16 := HFEW.out
        have hun : IntKind.i64.wrap ((k : Int) + 1) = (k : Int) + 1 := IntWalk.i64_in _ (by omega)
        obtain ⟨b, o, rfl, hb, hC⟩ := hv2.out (fun h => by subst h; simp at hkl)
        replace hC : FdsC w b o l := hC
        have HC := Lib.hid hC; clear hC
        obtain ⟨y0, y1, y2, y3, y4, y5⟩ := HC.out.below HBW.out hb k hkl
        have hbr : b < wr.heap.size := by have := HBW.out.size; omega
        have hk0 : (0 : Int) ≤ (k : Int) := by omega
        rcases Nat.lt_trichotomy k i with hki | hki | hki
        · have hge : ¬ nu ≤ (fdv l k).su := by have := HIN.out.bef k hki; omega
          have hne : (((fdv l k).su : Int) != nu) = true := by rw [bne_iff_ne]; omega
          have hd : decide (i < k) = false := decide_eq_false (by omega)
          rw [hd]
          have HD : Hid (decide (i < k + 1) = false) := Lib.hid (decide_eq_false (by omega))
          have HT : Hid ((insK l i true (mvF nu inh l t xo xi true) (k + 1)) = (insK l i true (mvF nu inh l t xo xi true) k) ++ [fdv l k]) := Lib.hid ((insK_lt hki hkl).trans (by rw [fdv_at hkl]))
          go_wp2_with fail
          have f0 := fun p : BelowOf _ => (HK.out.keep p.h).c4.1
          have g0 := fun p : BelowOf _ => BelowOf.cell hbr y0 p
          refine wp_region_WQ (by kernel_rfl) (by kernel_rfl) ?_
          repeat (refine WQ.step (fun K hK => ?_); go_simp; first | (refine hK.out _ ?_; clear hK K) | (apply Exists.intro; refine ⟨fun _ => ?_, hK.out _ ?_⟩; (first | rfl); clear hK K))
          refine WQ.nil ?_
          intro Wq hw'
          obtain ⟨⟨wq, hbq⟩, hw2⟩ := hw'
          subst hw2
          replace HO := Lib.hid (HO.out.keep hbq)
          replace HB := Lib.hid (bch' HB.out hbq)
          clear f0 g0
          clear k0 k1 k2 k3 kf0 kf1 kf2 kf3
          clear x0 x1 x2 x3 x4 x5 xf0 xf1 xf2 xf3 xf4 xf5
          clear HK HX HBW
          clear y0 y1 y2 y3 y4 y5 hbr
          have HK := Lib.hid (HK1.out.keep HB.out)
          have HX := Lib.hid (HX1.out.keep HB.out)
          have HBW : Hid (Below w.heap.size w Wq) := Lib.hid (bch' HB0.out HB.out)
          obtain ⟨k0, k1, k2, k3, kf0, kf1, kf2, kf3⟩ := HK.out.c4
          obtain ⟨x0, x1, x2, x3, x4, x5, xf0, xf1, xf2, xf3, xf4, xf5⟩ := HX.out.c6
          obtain ⟨y0, y1, y2, y3, y4, y5⟩ := HC.out.below HBW.out hb k hkl
          have hbr : b < Wq.heap.size := by have := HBW.out.size; omega
          go_wp2_with fail
          have f0 := fun p : BelowOf _ => (HK.out.keep p.h).c4.1
          have g0 := fun p : BelowOf _ => BelowOf.cell hbr y0 p
          refine wp_region_WQ (by kernel_rfl) (by kernel_rfl) ?_
          repeat (refine WQ.step (fun K hK => ?_); go_simp; first | (refine hK.out _ ?_; clear hK K) | (apply Exists.intro; refine ⟨fun _ => ?_, hK.out _ ?_⟩; (first | rfl); clear hK K))
          refine WQ.nil ?_
          intro Wr hw'
          obtain ⟨⟨wr2, hbr2⟩, hw2⟩ := hw'
          subst hw2
          replace HO := Lib.hid (HO.out.keep hbr2)
          replace HB := Lib.hid (bch' HB.out hbr2)
          clear f0 g0
          clear k0 k1 k2 k3 kf0 kf1 kf2 kf3
          clear x0 x1 x2 x3 x4 x5 xf0 xf1 xf2 xf3 xf4 xf5
          clear HK HX HBW
          clear y0 y1 y2 y3 y4 y5 hbr
          have HK := Lib.hid (HK1.out.keep HB.out)
          have HX := Lib.hid (HX1.out.keep HB.out)
          have HBW : Hid (Below w.heap.size w Wr) := Lib.hid (bch' HB0.out HB.out)
          obtain ⟨k0, k1, k2, k3, kf0, kf1, kf2, kf3⟩ := HK.out.c4
          obtain ⟨x0, x1, x2, x3, x4, x5, xf0, xf1, xf2, xf3, xf4, xf5⟩ := HX.out.c6
          obtain ⟨y0, y1, y2, y3, y4, y5⟩ := HC.out.below HBW.out hb k hkl
          have hbr : b < Wr.heap.size := by have := HBW.out.size; omega
          go_wp2_with (first | (at_builtin; refine wpList_appR3 rfl (.tmp 76) (.tmp 81) 26 rfl w3.heap.size 108 i0 (.agg #[.int .i64 0, .string ⟨#[]⟩, .int .i64 0, .int .i64 0, .int .i64 0, .int .i64 0]) 56 Tryz.underlying26 hi hz0 hz1 hz2 rfl (by decide) (by decide) pp cc n ((insK l i true (mvF nu inh l t xo xi true) k)) (HN.out) _ (fdv l k) Wr.heap.size (encF_len _) (fun j u hu => cellN _ 108 hu) (encF_one _) rfl (HO.out.keep ((Below.refl _ Wr).alloc (Nat.le_refl _) _)) rfl (by have := insK_len l i true (mvF nu inh l t xo xi true) k; have := HFEW.out; omega) (by have := HB.out.size; rw [World.size_alloc]; omega) ?_; intro p1 c1 w4 hO3 hb3 _; have HO3 := Lib.hid hO3; have HB3 := Lib.hid (HB.out.trans (((Below.refl _ Wr).alloc (by have := HB.out.size; omega) _).trans hb3)); clear hO3 hb3))
          clear HB
          have HB := HB3; clear HB3
          go_roundw
          case rel => exact ⟨k + 1, r, n + 1, p1, c1, by first | rfl | simp, by rw [HD.out], by first | rfl | simp, Lib.hid (by rw [HT.out, List.length_append, ← HN.out]; rfl), Lib.hid (by have := hkr.out; omega), HB, Lib.hid (by rw [HT.out]; exact HO3.out)⟩
          case measure => first | (simp [intOf]; done) | (simp [intOf]; omega)
        · obtain rfl : i = k := by omega
          have hd : decide (i < i) = false := decide_eq_false (Nat.lt_irrefl _)
          rw [hd]
          have HD : Hid (decide (i < i + 1) = true) := Lib.hid (decide_eq_true (Nat.lt_succ_self _))
          have hge : nu ≤ (fdv l i).su := by have := (HIN.out.yes rfl).2; omega
          have hne : (((fdv l i).su : Int) != nu) = false := by have := (HIN.out.yes rfl).2; rw [bne_eq_false_iff_eq]; exact this
          have HT : Hid ((insK l i true (mvF nu inh l t xo xi true) (i + 1)) = (insK l i true (mvF nu inh l t xo xi true) i) ++ [(mvF nu inh l t xo xi true)]) := Lib.hid (insK_hit hkl)
          go_wp2_with fail
          have f0 := fun p : BelowOf _ => (HK.out.keep p.h).c4.1
          have g0 := fun p : BelowOf _ => BelowOf.cell hbr y0 p
          refine wp_region_WQ (by kernel_rfl) (by kernel_rfl) ?_
          repeat (refine WQ.step (fun K hK => ?_); go_simp; first | (refine hK.out _ ?_; clear hK K) | (apply Exists.intro; refine ⟨fun _ => ?_, hK.out _ ?_⟩; (first | rfl); clear hK K))
          refine WQ.nil ?_
          intro Wq hw'
          obtain ⟨⟨wq, hbq⟩, hw2⟩ := hw'
          subst hw2
          replace HO := Lib.hid (HO.out.keep hbq)
          replace HB := Lib.hid (bch' HB.out hbq)
          clear f0 g0
          clear k0 k1 k2 k3 kf0 kf1 kf2 kf3
          clear x0 x1 x2 x3 x4 x5 xf0 xf1 xf2 xf3 xf4 xf5
          clear HK HX HBW
          clear y0 y1 y2 y3 y4 y5 hbr
          have HK := Lib.hid (HK1.out.keep HB.out)
          have HX := Lib.hid (HX1.out.keep HB.out)
          have HBW : Hid (Below w.heap.size w Wq) := Lib.hid (bch' HB0.out HB.out)
          obtain ⟨k0, k1, k2, k3, kf0, kf1, kf2, kf3⟩ := HK.out.c4
          obtain ⟨x0, x1, x2, x3, x4, x5, xf0, xf1, xf2, xf3, xf4, xf5⟩ := HX.out.c6
          obtain ⟨y0, y1, y2, y3, y4, y5⟩ := HC.out.below HBW.out hb i hkl
          have hbr : b < Wq.heap.size := by have := HBW.out.size; omega
          go_wp2_with (first | (at_builtin; refine wpList_appR3 rfl (.tmp 64) (.tmp 66) 26 rfl w3.heap.size 108 i0 (.agg #[.int .i64 0, .string ⟨#[]⟩, .int .i64 0, .int .i64 0, .int .i64 0, .int .i64 0]) 56 Tryz.underlying26 hi hz0 hz1 hz2 rfl (by decide) (by decide) pp cc n ((insK l i true (mvF nu inh l t xo xi true) i)) (HN.out) _ ((mvF nu inh l t xo xi true)) Wq.heap.size (encF_len _) (fun j u hu => cellN _ 108 (by rw [HENC.out] at hu; exact hu)) (encF_one _) rfl (HO.out.keep ((Below.refl _ Wq).alloc (Nat.le_refl _) _)) rfl (by have := insK_len l i true (mvF nu inh l t xo xi true) i; have := HFEW.out; omega) (by have := HB.out.size; rw [World.size_alloc]; omega) ?_; intro p1 c1 w4 hO3 hb3 _; have HO3 := Lib.hid hO3; have HB3 := Lib.hid (HB.out.trans (((Below.refl _ Wq).alloc (by have := HB.out.size; omega) _).trans hb3)); clear hO3 hb3))
          clear k0 k1 k2 k3 kf0 kf1 kf2 kf3
          clear x0 x1 x2 x3 x4 x5 xf0 xf1 xf2 xf3 xf4 xf5
          clear HK HX HBW
          clear y0 y1 y2 y3 y4 y5 hbr
          clear HB HO
          have HB := HB3; have HO := HO3; clear HB3 HO3
          have HN1 : Hid (n + 1 = ((insK l i true (mvF nu inh l t xo xi true) i) ++ [(mvF nu inh l t xo xi true)]).length) := Lib.hid (by rw [List.length_append, ← HN.out]; rfl)
          have HK := Lib.hid (HK1.out.keep HB.out)
          have HX := Lib.hid (HX1.out.keep HB.out)
          have HBW : Hid (Below w.heap.size w w4) := Lib.hid (bch' HB0.out HB.out)
          obtain ⟨k0, k1, k2, k3, kf0, kf1, kf2, kf3⟩ := HK.out.c4
          obtain ⟨x0, x1, x2, x3, x4, x5, xf0, xf1, xf2, xf3, xf4, xf5⟩ := HX.out.c6
          obtain ⟨y0, y1, y2, y3, y4, y5⟩ := HC.out.below HBW.out hb i hkl
          have hbr : b < w4.heap.size := by have := HBW.out.size; omega
          have f0 := fun p : BelowOf _ => (HK.out.keep p.h).c4.1
          have g0 := fun p : BelowOf _ => BelowOf.cell hbr y0 p
          refine wp_region_WQ (by kernel_rfl) (by kernel_rfl) ?_
          repeat (refine WQ.step (fun K hK => ?_); go_simp; first | (refine hK.out _ ?_; clear hK K) | (apply Exists.intro; refine ⟨fun _ => ?_, hK.out _ ?_⟩; (first | rfl); clear hK K))
          refine WQ.nil ?_
          intro Wr hw'
          obtain ⟨⟨wr2, hbr2⟩, hw2⟩ := hw'
          subst hw2
          replace HO := Lib.hid (HO.out.keep hbr2)
          replace HB := Lib.hid (bch' HB.out hbr2)
          clear f0 g0
          clear k0 k1 k2 k3 kf0 kf1 kf2 kf3
          clear x0 x1 x2 x3 x4 x5 xf0 xf1 xf2 xf3 xf4 xf5
          clear HK HX HBW
          clear y0 y1 y2 y3 y4 y5 hbr
          have HK := Lib.hid (HK1.out.keep HB.out)
          have HX := Lib.hid (HX1.out.keep HB.out)
          have HBW : Hid (Below w.heap.size w Wr) := Lib.hid (bch' HB0.out HB.out)
          obtain ⟨k0, k1, k2, k3, kf0, kf1, kf2, kf3⟩ := HK.out.c4
          obtain ⟨x0, x1, x2, x3, x4, x5, xf0, xf1, xf2, xf3, xf4, xf5⟩ := HX.out.c6
          obtain ⟨y0, y1, y2, y3, y4, y5⟩ := HC.out.below HBW.out hb i hkl
          have hbr : b < Wr.heap.size := by have := HBW.out.size; omega
          go_wp2_with fail
          go_roundw
          case rel => exact ⟨i + 1, r, n + 1, p1, c1, by first | rfl | simp, by rw [HD.out], by first | rfl | simp, Lib.hid (by rw [HT.out]; exact HN1.out), Lib.hid (by have := hkr.out; omega), HB, Lib.hid (by rw [HT.out]; exact HO.out)⟩
          case measure => first | (simp [intOf]; done) | (simp [intOf]; omega)
        · have hge : nu < (fdv l k).su := HIN.out.aft k hki hkl
          have hne : (((fdv l k).su : Int) != nu) = true := by rw [bne_iff_ne]; omega
          have hd : decide (i < k) = true := decide_eq_true hki
          rw [hd]
          have HD : Hid (decide (i < k + 1) = true) := Lib.hid (decide_eq_true (by omega))
          have HT : Hid ((insK l i true (mvF nu inh l t xo xi true) (k + 1)) = (insK l i true (mvF nu inh l t xo xi true) k) ++ [fdv l k]) := Lib.hid ((insK_gt hki hkl).trans (by rw [fdv_at hkl]))
          go_wp2_with fail
          have f0 := fun p : BelowOf _ => (HK.out.keep p.h).c4.1
          have g0 := fun p : BelowOf _ => BelowOf.cell hbr y0 p
          refine wp_region_WQ (by kernel_rfl) (by kernel_rfl) ?_
          repeat (refine WQ.step (fun K hK => ?_); go_simp; first | (refine hK.out _ ?_; clear hK K) | (apply Exists.intro; refine ⟨fun _ => ?_, hK.out _ ?_⟩; (first | rfl); clear hK K))
          refine WQ.nil ?_
          intro Wq hw'
          obtain ⟨⟨wq, hbq⟩, hw2⟩ := hw'
          subst hw2
          replace HO := Lib.hid (HO.out.keep hbq)
          replace HB := Lib.hid (bch' HB.out hbq)
          clear f0 g0
          clear k0 k1 k2 k3 kf0 kf1 kf2 kf3
          clear x0 x1 x2 x3 x4 x5 xf0 xf1 xf2 xf3 xf4 xf5
          clear HK HX HBW
          clear y0 y1 y2 y3 y4 y5 hbr
          have HK := Lib.hid (HK1.out.keep HB.out)
          have HX := Lib.hid (HX1.out.keep HB.out)
          have HBW : Hid (Below w.heap.size w Wq) := Lib.hid (bch' HB0.out HB.out)
          obtain ⟨k0, k1, k2, k3, kf0, kf1, kf2, kf3⟩ := HK.out.c4
          obtain ⟨x0, x1, x2, x3, x4, x5, xf0, xf1, xf2, xf3, xf4, xf5⟩ := HX.out.c6
          obtain ⟨y0, y1, y2, y3, y4, y5⟩ := HC.out.below HBW.out hb k hkl
          have hbr : b < Wq.heap.size := by have := HBW.out.size; omega
          go_wp2_with fail
          have f0 := fun p : BelowOf _ => (HK.out.keep p.h).c4.1
          have g0 := fun p : BelowOf _ => BelowOf.cell hbr y0 p
          refine wp_region_WQ (by kernel_rfl) (by kernel_rfl) ?_
          repeat (refine WQ.step (fun K hK => ?_); go_simp; first | (refine hK.out _ ?_; clear hK K) | (apply Exists.intro; refine ⟨fun _ => ?_, hK.out _ ?_⟩; (first | rfl); clear hK K))
          refine WQ.nil ?_
          intro Wr hw'
          obtain ⟨⟨wr2, hbr2⟩, hw2⟩ := hw'
          subst hw2
          replace HO := Lib.hid (HO.out.keep hbr2)
          replace HB := Lib.hid (bch' HB.out hbr2)
          clear f0 g0
          clear k0 k1 k2 k3 kf0 kf1 kf2 kf3
          clear x0 x1 x2 x3 x4 x5 xf0 xf1 xf2 xf3 xf4 xf5
          clear HK HX HBW
          clear y0 y1 y2 y3 y4 y5 hbr
          have HK := Lib.hid (HK1.out.keep HB.out)
          have HX := Lib.hid (HX1.out.keep HB.out)
          have HBW : Hid (Below w.heap.size w Wr) := Lib.hid (bch' HB0.out HB.out)
          obtain ⟨k0, k1, k2, k3, kf0, kf1, kf2, kf3⟩ := HK.out.c4
          obtain ⟨x0, x1, x2, x3, x4, x5, xf0, xf1, xf2, xf3, xf4, xf5⟩ := HX.out.c6
          obtain ⟨y0, y1, y2, y3, y4, y5⟩ := HC.out.below HBW.out hb k hkl
          have hbr : b < Wr.heap.size := by have := HBW.out.size; omega
          go_wp2_with (first | (at_builtin; refine wpList_appR3 rfl (.tmp 76) (.tmp 81) 26 rfl w3.heap.size 108 i0 (.agg #[.int .i64 0, .string ⟨#[]⟩, .int .i64 0, .int .i64 0, .int .i64 0, .int .i64 0]) 56 Tryz.underlying26 hi hz0 hz1 hz2 rfl (by decide) (by decide) pp cc n ((insK l i true (mvF nu inh l t xo xi true) k)) (HN.out) _ (fdv l k) Wr.heap.size (encF_len _) (fun j u hu => cellN _ 108 hu) (encF_one _) rfl (HO.out.keep ((Below.refl _ Wr).alloc (Nat.le_refl _) _)) rfl (by have := insK_len l i true (mvF nu inh l t xo xi true) k; have := HFEW.out; omega) (by have := HB.out.size; rw [World.size_alloc]; omega) ?_; intro p1 c1 w4 hO3 hb3 _; have HO3 := Lib.hid hO3; have HB3 := Lib.hid (HB.out.trans (((Below.refl _ Wr).alloc (by have := HB.out.size; omega) _).trans hb3)); clear hO3 hb3))
          clear HB
          have HB := HB3; clear HB3
          go_roundw
          case rel => exact ⟨k + 1, r, n + 1, p1, c1, by first | rfl | simp, by rw [HD.out], by first | rfl | simp, Lib.hid (by rw [HT.out, List.length_append, ← HN.out]; rfl), Lib.hid (by have := hkr.out; omega), HB, Lib.hid (by rw [HT.out]; exact HO3.out)⟩
          case measure => first | (simp [intOf]; done) | (simp [intOf]; omega)

set_option maxRecDepth 100000 in
set_option maxHeartbeats 8000000 in
theorem r26_moved_on (nu pr t xo xi : Int) (inh : Bool) (gs : List Gn) (l : List Fdr) (gv lv : Value) (i : Nat) (w : World) (hv : GnsAt w gv gs) (hl : FdsAt w lv l) (hlen : ∀ i, i < l.length → (fdv l i).fr.length ≤ 1000) (hf0 : facE l = 0) (hb9 : Belongs (fun k => (fdv l k).su) l.length nu i true) (hz : ¬ lvlQ nu inh l t = 0) :
    Calls Tryz.prog 101 #[.agg #[.int .i64 nu, .int .i64 pr, .bool (inh), gv], lv, .int .i64 t, .int .i64 xo, .int .i64 xi] w fun e w' => ∃ pp cc, e = .returned (.slice pp (insL l i true (mvF nu inh l t xo xi true)).length cc) ∧ OwnR encF 6 w.heap.size 108 w' pp cc (insL l i true (mvF nu inh l t xo xi true)) ∧ Below w.heap.size w w' := by
  obtain ⟨pg, cg, rfl⟩ : ∃ pg cg, gv = .slice pg gs.length cg := by obtain ⟨pg, cg, e, -⟩ := hv; exact ⟨pg, cg, e⟩
  have hf := facOk hf0
  have HIN := Lib.hid hb9
  have HFEW := Lib.hid hf.few
  obtain ⟨i0, hi, hz0, hz1, hz2⟩ := info_parts info_fader
  have HSU := Lib.hid (fadG_su nu inh l)
  have hgl := fun W (h : FdsAt W lv l) => r26_glide nu pr inh l (.slice pg gs.length cg) lv W h (by have := hf.few; omega)
  have hg := fadG_fg (nu := nu) (inh := inh) hf
  have hx := fadG_lenK (nu := nu) (inh := inh) hlen
  unfold fgE at hg
  have hgo := fun W => r3_gone (fadG nu inh l).fr (fadG nu inh l).tz (fadG nu inh l).st (fadG nu inh l).ti t xo xi W hx hg
  change ∀ W, Calls _ _ _ W (fun e w' => e = .returned (.agg #[.string ⟨(showR (lvlQ nu inh l t)).toArray⟩, .int .i64 xo, .int .i64 t, .int .i64 xi]) ∧ _) at hgo
  have hsh := fun W (h : FdsAt W lv l) => r26_shown nu pr t inh l (.slice pg gs.length cg) lv W h (by have := hf.few; omega) hf hlen
  have hat := fun W (h : FdsAt W lv l) => r26_at l nu lv W h (by have := hf.few; omega)
  rw [at_hit hb9] at hat
  have hl0 : (showR (lvlQ nu inh l t) == [48]) = false := by rw [beq_eq_false_iff_ne]; exact fun h => hz (show_zero.1 h)
  have hl1 : (showR (lvlQ nu inh l t) != [48]) = true := by rw [bne, hl0]; rfl
  have HZ := Lib.hid hz; clear hz
  have HSP : Hid ((fadG nu inh l).stp = (fdv l i).stp) := Lib.hid (by rw [fadG_hit hb9])
  have hal := (Below.refl w.heap.size w).alloc (Nat.le_refl _) (.cells #[.int .i64 nu, .int .i64 pr, .bool (inh), (.slice pg gs.length cg)] 58)
  have HL0 := Lib.hid hl
  obtain ⟨p, c, rfl, -, hv1⟩ := hl
  have hv2 := Lib.hid hv1; clear hv1
  have HB := Lib.hid hal; clear hal
  have HK := Lib.hid (Blk.new w 58 #[.int .i64 nu, .int .i64 pr, .bool (inh), (.slice pg gs.length cg)])
  obtain ⟨k0, k1, k2, k3, kf0, kf1, kf2, kf3⟩ := HK.out.c4
  clear hg hx hf hf0 hlen hb9 hv
  generalize htl : showR (lvlQ nu inh l t) = tl at *
  have HTL := Lib.hid htl; clear htl
  have HGL := Lib.hid hgl; clear hgl
  have HGO := Lib.hid hgo; clear hgo
  have HSH := Lib.hid hsh; clear hsh
  have HAT := Lib.hid hat; clear hat
  go_enter Tryz.func101, Tryz.ntmps101
  go_upto_region 1 with fail
  generalize w.alloc (.cells #[.int .i64 nu, .int .i64 pr, .bool (inh), (.slice pg gs.length cg)] 58) = w1 at *
  obtain ⟨SS, hSS⟩ : ∃ SS : World → Prop, ∀ W', SS W' ↔ (Below w.heap.size w W' ∧ Blk W' w.heap.size 58 #[.int .i64 nu, .int .i64 pr, .bool (inh), (.slice pg gs.length cg)]) := ⟨fun W' => Below w.heap.size w W' ∧ Blk W' w.heap.size 58 #[.int .i64 nu, .int .i64 pr, .bool (inh), (.slice pg gs.length cg)], fun _ => Iff.rfl⟩
  have HBO : Hid (∀ W', SS W' → (W'.cell? ⟨w.heap.size, 0, none⟩ = some (.int .i64 nu) ∧ W'.cell? ⟨w.heap.size, 1, none⟩ = some (.int .i64 pr) ∧ W'.cell? ⟨w.heap.size, 2, none⟩ = some (.bool (inh)) ∧ W'.cell? ⟨w.heap.size, 3, none⟩ = some ((.slice pg gs.length cg)) ∧ SS W')) := Lib.hid fun W' hs => by obtain ⟨h1, h2⟩ := (hSS W').1 hs; exact ⟨h2.c4.1, h2.c4.2.1, h2.c4.2.2.1, h2.c4.2.2.2.1, hs⟩
  have HS1 : Hid (SS w1) := Lib.hid ((hSS _).2 ⟨HB.out, HK.out⟩)
  have HKE : Hid (∀ A B, SS A → Below A.heap.size A B → SS B) := Lib.hid fun A B hs hb => by obtain ⟨h1, h2⟩ := (hSS A).1 hs; exact (hSS B).2 ⟨bch' h1 hb, h2.keep hb⟩
  have HKD : Hid (∀ A, SS A → SS A.drew) := Lib.hid fun A h => HKE.out _ _ h ((Below.refl _ _).drew)
  have HKA : Hid (∀ A c, SS A → SS (A.alloc c)) := Lib.hid fun A c h => HKE.out _ _ h ((Below.refl _ _).alloc (Nat.le_refl _) _)
  have HSZ : Hid (∀ W, SS W → w.heap.size + 1 ≤ W.heap.size) := Lib.hid fun W hs => (by have h2 := ((hSS W).1 hs).2.lt; omega)
  have HLB : Hid (∀ W, SS W → FdsAt W (.slice p l.length c) l) := Lib.hid fun W hs => FdsAt.kept HL0.out ((hSS W).1 hs).1
  have HSE : Hid (∀ (A : World) (n : Nat) (v0 v1 v2 v3 v4 v5 : Value), SS A → w.heap.size + 1 ≤ n → SS ((((((A.setCell ⟨n, 0, none⟩ v0).setCell ⟨n, 1, none⟩ v1).setCell ⟨n, 2, none⟩ v2).setCell ⟨n, 3, none⟩ v3).setCell ⟨n, 4, none⟩ v4).setCell ⟨n, 5, none⟩ v5)) := Lib.hid fun A n v0 v1 v2 v3 v4 v5 hs hn => by obtain ⟨h1, h2⟩ := (hSS A).1 hs; have hn0 : w.heap.size ≤ n := (by omega); have hn1 : w.heap.size ≠ n := (by omega); exact (hSS _).2 ⟨(((((h1.setCell hn0 _).setCell hn0 _).setCell hn0 _).setCell hn0 _).setCell hn0 _).setCell hn0 _, (((((h2.far hn1 _).far hn1 _).far hn1 _).far hn1 _).far hn1 _).far hn1 _⟩
  have HFI : Hid (∀ A, SS A → Below w.heap.size w A ∧ Blk A w.heap.size 58 #[.int .i64 nu, .int .i64 pr, .bool (inh), (.slice pg gs.length cg)]) := Lib.hid fun A hs => (hSS A).1 hs
  clear hSS HK HB
  clear k0 k1 k2 k3 kf0 kf1 kf2 kf3
  go_cut [11] (fun s11 wx => ∃ X : Nat, s11 = .pointer (some ⟨X, 0, none⟩) ∧ w.heap.size + 1 ≤ X ∧ Hid (SS wx) ∧ Hid (Blk wx X 108 #[.int .i64 nu, .string ⟨(tl).toArray⟩, .int .i64 xo, .int .i64 t, .int .i64 xi, .int .i64 t]))
  case first =>
    go_region_held3 (fun W' => W'.cell? ⟨w.heap.size, 0, none⟩ = some (.int .i64 nu) ∧ W'.cell? ⟨w.heap.size, 1, none⟩ = some (.int .i64 pr) ∧ W'.cell? ⟨w.heap.size, 2, none⟩ = some (.bool (inh)) ∧ W'.cell? ⟨w.heap.size, 3, none⟩ = some ((.slice pg gs.length cg)) ∧ SS W') (with_reducible refine HBO.out _ ?_; ((repeat (first | with_reducible refine HSE.out _ _ _ _ _ _ _ _ ?_ HZ.1 | with_reducible refine HKE.out _ _ ?_ hb8 | with_reducible refine HKE.out _ _ ?_ hb9 | with_reducible refine HKA.out _ _ ?_ | with_reducible refine HKD.out _ ?_)); with_reducible exact HS1.out)) (first | (go_at_call 150; with_reducible refine (HGL.out _ (HLB.out _ (by ((repeat (first | with_reducible refine HSE.out _ _ _ _ _ _ _ _ ?_ HZ.1 | with_reducible refine HKE.out _ _ ?_ hb8 | with_reducible refine HKE.out _ _ ?_ hb9 | with_reducible refine HKA.out _ _ ?_ | with_reducible refine HKD.out _ ?_)); with_reducible exact HS1.out)))).mono ?_; rintro e w9 ⟨rfl, hb9⟩) | (go_at_call 139; with_reducible refine (HGO.out _).mono ?_; rintro e w8 ⟨rfl, hb8⟩; first | (with_reducible refine use4 (And.intro (HSZ.out _ HS1.out) (Blk.keep (Blk.keep (Blk.drew (blkNE rfl)) hb9) hb8) : w.heap.size + 1 ≤ w1.heap.size ∧ Blk w8 w1.heap.size 108 #[.int .i64 0, .string ⟨#[]⟩, .int .i64 0, .int .i64 0, .int .i64 0, .int .i64 0]) (fun HZ => ?_); obtain ⟨z0, z1, z2, z3, z4, z5, zf0, zf1, zf2, zf3, zf4, zf5⟩ := HZ.2.c6) | (with_reducible refine use4 (And.intro (HSZ.out _ (HKE.out _ _ (HKD.out _ HS1.out) hb9)) (Blk.keep (blkNE rfl) hb8) : w.heap.size + 1 ≤ w9.heap.size ∧ Blk w8 w9.heap.size 108 #[.int .i64 0, .string ⟨#[]⟩, .int .i64 0, .int .i64 0, .int .i64 0, .int .i64 0]) (fun HZ => ?_); obtain ⟨z0, z1, z2, z3, z4, z5, zf0, zf1, zf2, zf3, zf4, zf5⟩ := HZ.2.c6) | skip))
    all_goals (go_wp2_with fail; go_meet; refine ⟨_, rfl, ?_, Lib.hid ?_, Lib.hid ?_⟩)
    all_goals first | ((repeat (first | with_reducible refine HSE.out _ _ _ _ _ _ _ _ ?_ HZ.1 | with_reducible refine HKE.out _ _ ?_ hb8 | with_reducible refine HKE.out _ _ ?_ hb9 | with_reducible refine HKA.out _ _ ?_ | with_reducible refine HKD.out _ ?_)); with_reducible exact HS1.out) | with_reducible exact HZ.1 | exact Blk.all6 HZ.2 _ _ _ _ _ _ | exact blkNE rfl | exact HSZ.out _ (by ((repeat (first | with_reducible refine HSE.out _ _ _ _ _ _ _ _ ?_ HZ.1 | with_reducible refine HKE.out _ _ ?_ hb8 | with_reducible refine HKE.out _ _ ?_ hb9 | with_reducible refine HKA.out _ _ ?_ | with_reducible refine HKD.out _ ?_)); with_reducible exact HS1.out))
  case rest =>
    obtain ⟨X, rfl, hX, HSS, HX⟩ := hcut
    obtain ⟨hB, hK⟩ := HFI.out _ HSS.out
    have HB := Lib.hid hB; have HK := Lib.hid hK; clear hB hK HSS HFI HSE HLB HSZ HKA HKD HKE HS1 HBO
    have HL := Lib.hid (FdsAt.kept HL0.out HB.out)
    obtain ⟨k0, k1, k2, k3, kf0, kf1, kf2, kf3⟩ := HK.out.c4
    obtain ⟨x0, x1, x2, x3, x4, x5, xf0, xf1, xf2, xf3, xf4, xf5⟩ := HX.out.c6
    go_wp2_with fail
    refine ((HAT.out _ HL.out).mono ?_)
    rintro e w2 ⟨rfl, hb⟩
    replace HK := Lib.hid (HK.out.keep hb); clear k0 k1 k2 k3 kf0 kf1 kf2 kf3; replace HX := Lib.hid (HX.out.keep hb); clear x0 x1 x2 x3 x4 x5 xf0 xf1 xf2 xf3 xf4 xf5; replace HL := Lib.hid (FdsAt.kept HL.out hb); replace HB := Lib.hid (bch' HB.out hb); clear hb; obtain ⟨k0, k1, k2, k3, kf0, kf1, kf2, kf3⟩ := HK.out.c4; obtain ⟨x0, x1, x2, x3, x4, x5, xf0, xf1, xf2, xf3, xf4, xf5⟩ := HX.out.c6
    have hi0 : (0 : Int) ≤ (i : Int) := by omega
    go_upto_region 4 with (first | (with_reducible refine ((HSH.out _ HL.out).mono ?_); rintro e w' ⟨rfl, hb⟩; replace HK := Lib.hid (HK.out.keep hb); clear k0 k1 k2 k3 kf0 kf1 kf2 kf3; replace HX := Lib.hid (HX.out.keep hb); clear x0 x1 x2 x3 x4 x5 xf0 xf1 xf2 xf3 xf4 xf5; replace HL := Lib.hid (FdsAt.kept HL.out hb); replace HB := Lib.hid (bch' HB.out hb); clear hb; obtain ⟨k0, k1, k2, k3, kf0, kf1, kf2, kf3⟩ := HK.out.c4; obtain ⟨x0, x1, x2, x3, x4, x5, xf0, xf1, xf2, xf3, xf4, xf5⟩ := HX.out.c6))
    obtain ⟨hil2, -⟩ := HIN.out.yes rfl
    have hi1 : (i : Int) < (l.length : Int) := by omega
    obtain ⟨b, o, rfl, hb, hC⟩ := hv2.out (fun h => by subst h; simp at hil2)
    replace hC : FdsC w b o l := hC
    obtain ⟨y0, y1, y2, y3, y4, y5⟩ := hC.below HB.out hb i hil2
    have HCX := Lib.hid hC
    have HBX := Lib.hid hb
    clear hC
    have hbX : b ≠ X := by omega
    go_upto_region 5 with fail
    have HX2 : Hid (Blk (w'.setCell ⟨X, 5, none⟩ (.int .i64 (fdv l i).stp)) X 108 #[.int .i64 nu, .string ⟨(tl).toArray⟩, .int .i64 xo, .int .i64 t, .int .i64 xi, .int .i64 ((fdv l i).stp)]) := Lib.hid (HX.out.set_ 5 _)
    have HK2 := Lib.hid (HK.out.far (p := ⟨X, 5, none⟩) (show w.heap.size ≠ X by omega) (.int .i64 (fdv l i).stp))
    have HB2 := Lib.hid (HB.out.setCell (p := ⟨X, 5, none⟩) (show w.heap.size ≤ X by omega) (.int .i64 (fdv l i).stp))
    clear k0 k1 k2 k3 kf0 kf1 kf2 kf3
    clear x0 x1 x2 x3 x4 x5 xf0 xf1 xf2 xf3 xf4 xf5
    clear HK HX HB HL hb hbX hi1 y0 y1 y2 y3 y4 y5
    generalize w'.setCell ⟨X, 5, none⟩ (.int .i64 (fdv l i).stp) = w3 at *
    have HX := HX2; have HK := HK2; have HB := HB2; clear HX2 HK2 HB2
    obtain ⟨k0, k1, k2, k3, kf0, kf1, kf2, kf3⟩ := HK.out.c4
    obtain ⟨x0, x1, x2, x3, x4, x5, xf0, xf1, xf2, xf3, xf4, xf5⟩ := HX.out.c6
    clear hi0
    have HENC : Hid (encF (mvF nu inh l t xo xi true) = [.int .i64 nu, .string ⟨(tl).toArray⟩, .int .i64 xo, .int .i64 t, .int .i64 xi, .int .i64 ((fdv l i).stp)]) := Lib.hid (by rw [mvF_on HZ.out]; show encF ⟨_, _, _, _, _, _⟩ = _; unfold encF; rw [HSU.out, HSP.out, HTL.out])
    have HB0 := HB; have HK1 := HK; have HX1 := HX
    clear HB HK HX
    have HB := Lib.hid (Below.refl w3.heap.size w3)
    have HK := HK1; have HX := HX1
    go_wp2_with fail
    go_loopw [13, 14, 15] (fun s d j wr => ∃ (k r n : Nat) (pp : Option Addr) (cc : Nat), s = .slice pp n cc ∧ d = .bool (decide (i < k)) ∧ j = .int .i64 (k : Int) ∧ Hid (n = (insK l i true (mvF nu inh l t xo xi true) k).length) ∧ Hid (k + r = l.length) ∧ Hid (Below w3.heap.size w3 wr) ∧ Hid (OwnR encF 6 w3.heap.size 108 wr pp cc (insK l i true (mvF nu inh l t xo xi true) k))) (fun _ _ j _ => l.length - (intOf j).toNat)
    case atStart => exact ⟨0, l.length, 0, none, 0, rfl, by rw [decide_eq_false (Nat.not_lt_zero _)], rfl, Lib.hid (by rw [insK_zero]; rfl), Lib.hid (by omega), HB, Lib.hid (by rw [insK_zero]; exact OwnR.nil _ _ _)⟩
    case round =>
      obtain ⟨k, r, n, pp, cc, rfl, rfl, rfl, HN, hkr, HB2, HO2⟩ := hrel
      clear HB
      have HB := HB2; have HO := HO2; clear HB2 HO2
      clear k0 k1 k2 k3 kf0 kf1 kf2 kf3
      clear x0 x1 x2 x3 x4 x5 xf0 xf1 xf2 xf3 xf4 xf5
      have HK := Lib.hid (HK1.out.keep HB.out)
      have HX := Lib.hid (HX1.out.keep HB.out)
      have HBW : Hid (Below w.heap.size w wr) := Lib.hid (bch' HB0.out HB.out)
      obtain ⟨k0, k1, k2, k3, kf0, kf1, kf2, kf3⟩ := HK.out.c4
      obtain ⟨x0, x1, x2, x3, x4, x5, xf0, xf1, xf2, xf3, xf4, xf5⟩ := HX.out.c6
      cases r with
      | zero =>
        have hlt : ¬ (k : Int) < (l.length : Int) := by have := hkr.out; omega
        obtain rfl : k = l.length := by have := hkr.out; omega
        have hil2 : i < l.length := (HIN.out.yes rfl).1
        have hd : decide (i < l.length) = true := decide_eq_true hil2
        rw [hd]
        have HE : Hid ((insK l i true (mvF nu inh l t xo xi true) l.length) = insL l i true (mvF nu inh l t xo xi true)) := Lib.hid (insK_end hil2)
        rw [HE.out] at HN HO
        have HN2 := HN
        clear HN
        go_wp2_with fail
        go_ret
        obtain rfl := HN2.out
        exact ⟨_, _, rfl, HO.out.lower (by have := HB0.out.size; omega), HBW.out⟩
      | succ r =>
        have hkl : k < l.length := by have := hkr.out; omega
        have hlt : (k : Int) < (l.length : Int) := by omega
        have hk9 : l.length ≤ 16 := HFEW.out
        have hun : IntKind.i64.wrap ((k : Int) + 1) = (k : Int) + 1 := IntWalk.i64_in _ (by omega)
        have HC := HCX
        have hb := HBX.out
        obtain ⟨y0, y1, y2, y3, y4, y5⟩ := HC.out.below HBW.out hb k hkl
        have hbr : b < wr.heap.size := by have := HBW.out.size; omega
        have hk0 : (0 : Int) ≤ (k : Int) := by omega
        rcases Nat.lt_trichotomy k i with hki | hki | hki
        · have hge : ¬ nu ≤ (fdv l k).su := by have := HIN.out.bef k hki; omega
          have hne : (((fdv l k).su : Int) != nu) = true := by rw [bne_iff_ne]; omega
          have hd : decide (i < k) = false := decide_eq_false (by omega)
          rw [hd]
          have HD : Hid (decide (i < k + 1) = false) := Lib.hid (decide_eq_false (by omega))
          have HT : Hid ((insK l i true (mvF nu inh l t xo xi true) (k + 1)) = (insK l i true (mvF nu inh l t xo xi true) k) ++ [fdv l k]) := Lib.hid ((insK_lt hki hkl).trans (by rw [fdv_at hkl]))
          go_wp2_with fail
          have f0 := fun p : BelowOf _ => (HK.out.keep p.h).c4.1
          have g0 := fun p : BelowOf _ => BelowOf.cell hbr y0 p
          refine wp_region_WQ (by kernel_rfl) (by kernel_rfl) ?_
          repeat (refine WQ.step (fun K hK => ?_); go_simp; first | (refine hK.out _ ?_; clear hK K) | (apply Exists.intro; refine ⟨fun _ => ?_, hK.out _ ?_⟩; (first | rfl); clear hK K))
          refine WQ.nil ?_
          intro Wq hw'
          obtain ⟨⟨wq, hbq⟩, hw2⟩ := hw'
          subst hw2
          replace HO := Lib.hid (HO.out.keep hbq)
          replace HB := Lib.hid (bch' HB.out hbq)
          clear f0 g0
          clear k0 k1 k2 k3 kf0 kf1 kf2 kf3
          clear x0 x1 x2 x3 x4 x5 xf0 xf1 xf2 xf3 xf4 xf5
          clear HK HX HBW
          clear y0 y1 y2 y3 y4 y5 hbr
          have HK := Lib.hid (HK1.out.keep HB.out)
          have HX := Lib.hid (HX1.out.keep HB.out)
          have HBW : Hid (Below w.heap.size w Wq) := Lib.hid (bch' HB0.out HB.out)
          obtain ⟨k0, k1, k2, k3, kf0, kf1, kf2, kf3⟩ := HK.out.c4
          obtain ⟨x0, x1, x2, x3, x4, x5, xf0, xf1, xf2, xf3, xf4, xf5⟩ := HX.out.c6
          obtain ⟨y0, y1, y2, y3, y4, y5⟩ := HC.out.below HBW.out hb k hkl
          have hbr : b < Wq.heap.size := by have := HBW.out.size; omega
          go_wp2_with fail
          have f0 := fun p : BelowOf _ => (HK.out.keep p.h).c4.1
          have g0 := fun p : BelowOf _ => BelowOf.cell hbr y0 p
          refine wp_region_WQ (by kernel_rfl) (by kernel_rfl) ?_
          repeat (refine WQ.step (fun K hK => ?_); go_simp; first | (refine hK.out _ ?_; clear hK K) | (apply Exists.intro; refine ⟨fun _ => ?_, hK.out _ ?_⟩; (first | rfl); clear hK K))
          refine WQ.nil ?_
          intro Wr hw'
          obtain ⟨⟨wr2, hbr2⟩, hw2⟩ := hw'
          subst hw2
          replace HO := Lib.hid (HO.out.keep hbr2)
          replace HB := Lib.hid (bch' HB.out hbr2)
          clear f0 g0
          clear k0 k1 k2 k3 kf0 kf1 kf2 kf3
          clear x0 x1 x2 x3 x4 x5 xf0 xf1 xf2 xf3 xf4 xf5
          clear HK HX HBW
          clear y0 y1 y2 y3 y4 y5 hbr
          have HK := Lib.hid (HK1.out.keep HB.out)
          have HX := Lib.hid (HX1.out.keep HB.out)
          have HBW : Hid (Below w.heap.size w Wr) := Lib.hid (bch' HB0.out HB.out)
          obtain ⟨k0, k1, k2, k3, kf0, kf1, kf2, kf3⟩ := HK.out.c4
          obtain ⟨x0, x1, x2, x3, x4, x5, xf0, xf1, xf2, xf3, xf4, xf5⟩ := HX.out.c6
          obtain ⟨y0, y1, y2, y3, y4, y5⟩ := HC.out.below HBW.out hb k hkl
          have hbr : b < Wr.heap.size := by have := HBW.out.size; omega
          go_wp2_with (first | (at_builtin; refine wpList_appR3 rfl (.tmp 76) (.tmp 81) 26 rfl w3.heap.size 108 i0 (.agg #[.int .i64 0, .string ⟨#[]⟩, .int .i64 0, .int .i64 0, .int .i64 0, .int .i64 0]) 56 Tryz.underlying26 hi hz0 hz1 hz2 rfl (by decide) (by decide) pp cc n ((insK l i true (mvF nu inh l t xo xi true) k)) (HN.out) _ (fdv l k) Wr.heap.size (encF_len _) (fun j u hu => cellN _ 108 hu) (encF_one _) rfl (HO.out.keep ((Below.refl _ Wr).alloc (Nat.le_refl _) _)) rfl (by have := insK_len l i true (mvF nu inh l t xo xi true) k; have := HFEW.out; omega) (by have := HB.out.size; rw [World.size_alloc]; omega) ?_; intro p1 c1 w4 hO3 hb3 _; have HO3 := Lib.hid hO3; have HB3 := Lib.hid (HB.out.trans (((Below.refl _ Wr).alloc (by have := HB.out.size; omega) _).trans hb3)); clear hO3 hb3))
          clear HB
          have HB := HB3; clear HB3
          go_roundw
          case rel => exact ⟨k + 1, r, n + 1, p1, c1, by first | rfl | simp, by rw [HD.out], by first | rfl | simp, Lib.hid (by rw [HT.out, List.length_append, ← HN.out]; rfl), Lib.hid (by have := hkr.out; omega), HB, Lib.hid (by rw [HT.out]; exact HO3.out)⟩
          case measure => first | (simp [intOf]; done) | (simp [intOf]; omega)
        · obtain rfl : i = k := by omega
          have hd : decide (i < i) = false := decide_eq_false (Nat.lt_irrefl _)
          rw [hd]
          have HD : Hid (decide (i < i + 1) = true) := Lib.hid (decide_eq_true (Nat.lt_succ_self _))
          have hge : nu ≤ (fdv l i).su := by have := (HIN.out.yes rfl).2; omega
          have hne : (((fdv l i).su : Int) != nu) = false := by have := (HIN.out.yes rfl).2; rw [bne_eq_false_iff_eq]; exact this
          have HT : Hid ((insK l i true (mvF nu inh l t xo xi true) (i + 1)) = (insK l i true (mvF nu inh l t xo xi true) i) ++ [(mvF nu inh l t xo xi true)]) := Lib.hid (insK_hit hkl)
          go_wp2_with fail
          have f0 := fun p : BelowOf _ => (HK.out.keep p.h).c4.1
          have g0 := fun p : BelowOf _ => BelowOf.cell hbr y0 p
          refine wp_region_WQ (by kernel_rfl) (by kernel_rfl) ?_
          repeat (refine WQ.step (fun K hK => ?_); go_simp; first | (refine hK.out _ ?_; clear hK K) | (apply Exists.intro; refine ⟨fun _ => ?_, hK.out _ ?_⟩; (first | rfl); clear hK K))
          refine WQ.nil ?_
          intro Wq hw'
          obtain ⟨⟨wq, hbq⟩, hw2⟩ := hw'
          subst hw2
          replace HO := Lib.hid (HO.out.keep hbq)
          replace HB := Lib.hid (bch' HB.out hbq)
          clear f0 g0
          clear k0 k1 k2 k3 kf0 kf1 kf2 kf3
          clear x0 x1 x2 x3 x4 x5 xf0 xf1 xf2 xf3 xf4 xf5
          clear HK HX HBW
          clear y0 y1 y2 y3 y4 y5 hbr
          have HK := Lib.hid (HK1.out.keep HB.out)
          have HX := Lib.hid (HX1.out.keep HB.out)
          have HBW : Hid (Below w.heap.size w Wq) := Lib.hid (bch' HB0.out HB.out)
          obtain ⟨k0, k1, k2, k3, kf0, kf1, kf2, kf3⟩ := HK.out.c4
          obtain ⟨x0, x1, x2, x3, x4, x5, xf0, xf1, xf2, xf3, xf4, xf5⟩ := HX.out.c6
          obtain ⟨y0, y1, y2, y3, y4, y5⟩ := HC.out.below HBW.out hb i hkl
          have hbr : b < Wq.heap.size := by have := HBW.out.size; omega
          go_wp2_with (first | (at_builtin; refine wpList_appR3 rfl (.tmp 64) (.tmp 66) 26 rfl w3.heap.size 108 i0 (.agg #[.int .i64 0, .string ⟨#[]⟩, .int .i64 0, .int .i64 0, .int .i64 0, .int .i64 0]) 56 Tryz.underlying26 hi hz0 hz1 hz2 rfl (by decide) (by decide) pp cc n ((insK l i true (mvF nu inh l t xo xi true) i)) (HN.out) _ ((mvF nu inh l t xo xi true)) Wq.heap.size (encF_len _) (fun j u hu => cellN _ 108 (by rw [HENC.out] at hu; exact hu)) (encF_one _) rfl (HO.out.keep ((Below.refl _ Wq).alloc (Nat.le_refl _) _)) rfl (by have := insK_len l i true (mvF nu inh l t xo xi true) i; have := HFEW.out; omega) (by have := HB.out.size; rw [World.size_alloc]; omega) ?_; intro p1 c1 w4 hO3 hb3 _; have HO3 := Lib.hid hO3; have HB3 := Lib.hid (HB.out.trans (((Below.refl _ Wq).alloc (by have := HB.out.size; omega) _).trans hb3)); clear hO3 hb3))
          clear k0 k1 k2 k3 kf0 kf1 kf2 kf3
          clear x0 x1 x2 x3 x4 x5 xf0 xf1 xf2 xf3 xf4 xf5
          clear HK HX HBW
          clear y0 y1 y2 y3 y4 y5 hbr
          clear HB HO
          have HB := HB3; have HO := HO3; clear HB3 HO3
          have HN1 : Hid (n + 1 = ((insK l i true (mvF nu inh l t xo xi true) i) ++ [(mvF nu inh l t xo xi true)]).length) := Lib.hid (by rw [List.length_append, ← HN.out]; rfl)
          have HK := Lib.hid (HK1.out.keep HB.out)
          have HX := Lib.hid (HX1.out.keep HB.out)
          have HBW : Hid (Below w.heap.size w w4) := Lib.hid (bch' HB0.out HB.out)
          obtain ⟨k0, k1, k2, k3, kf0, kf1, kf2, kf3⟩ := HK.out.c4
          obtain ⟨x0, x1, x2, x3, x4, x5, xf0, xf1, xf2, xf3, xf4, xf5⟩ := HX.out.c6
          obtain ⟨y0, y1, y2, y3, y4, y5⟩ := HC.out.below HBW.out hb i hkl
          have hbr : b < w4.heap.size := by have := HBW.out.size; omega
          have f0 := fun p : BelowOf _ => (HK.out.keep p.h).c4.1
          have g0 := fun p : BelowOf _ => BelowOf.cell hbr y0 p
          refine wp_region_WQ (by kernel_rfl) (by kernel_rfl) ?_
          repeat (refine WQ.step (fun K hK => ?_); go_simp; first | (refine hK.out _ ?_; clear hK K) | (apply Exists.intro; refine ⟨fun _ => ?_, hK.out _ ?_⟩; (first | rfl); clear hK K))
          refine WQ.nil ?_
          intro Wr hw'
          obtain ⟨⟨wr2, hbr2⟩, hw2⟩ := hw'
          subst hw2
          replace HO := Lib.hid (HO.out.keep hbr2)
          replace HB := Lib.hid (bch' HB.out hbr2)
          clear f0 g0
          clear k0 k1 k2 k3 kf0 kf1 kf2 kf3
          clear x0 x1 x2 x3 x4 x5 xf0 xf1 xf2 xf3 xf4 xf5
          clear HK HX HBW
          clear y0 y1 y2 y3 y4 y5 hbr
          have HK := Lib.hid (HK1.out.keep HB.out)
          have HX := Lib.hid (HX1.out.keep HB.out)
          have HBW : Hid (Below w.heap.size w Wr) := Lib.hid (bch' HB0.out HB.out)
          obtain ⟨k0, k1, k2, k3, kf0, kf1, kf2, kf3⟩ := HK.out.c4
          obtain ⟨x0, x1, x2, x3, x4, x5, xf0, xf1, xf2, xf3, xf4, xf5⟩ := HX.out.c6
          obtain ⟨y0, y1, y2, y3, y4, y5⟩ := HC.out.below HBW.out hb i hkl
          have hbr : b < Wr.heap.size := by have := HBW.out.size; omega
          go_wp2_with fail
          go_roundw
          case rel => exact ⟨i + 1, r, n + 1, p1, c1, by first | rfl | simp, by rw [HD.out], by first | rfl | simp, Lib.hid (by rw [HT.out]; exact HN1.out), Lib.hid (by have := hkr.out; omega), HB, Lib.hid (by rw [HT.out]; exact HO.out)⟩
          case measure => first | (simp [intOf]; done) | (simp [intOf]; omega)
        · have hge : nu < (fdv l k).su := HIN.out.aft k hki hkl
          have hne : (((fdv l k).su : Int) != nu) = true := by rw [bne_iff_ne]; omega
          have hd : decide (i < k) = true := decide_eq_true hki
          rw [hd]
          have HD : Hid (decide (i < k + 1) = true) := Lib.hid (decide_eq_true (by omega))
          have HT : Hid ((insK l i true (mvF nu inh l t xo xi true) (k + 1)) = (insK l i true (mvF nu inh l t xo xi true) k) ++ [fdv l k]) := Lib.hid ((insK_gt hki hkl).trans (by rw [fdv_at hkl]))
          go_wp2_with fail
          have f0 := fun p : BelowOf _ => (HK.out.keep p.h).c4.1
          have g0 := fun p : BelowOf _ => BelowOf.cell hbr y0 p
          refine wp_region_WQ (by kernel_rfl) (by kernel_rfl) ?_
          repeat (refine WQ.step (fun K hK => ?_); go_simp; first | (refine hK.out _ ?_; clear hK K) | (apply Exists.intro; refine ⟨fun _ => ?_, hK.out _ ?_⟩; (first | rfl); clear hK K))
          refine WQ.nil ?_
          intro Wq hw'
          obtain ⟨⟨wq, hbq⟩, hw2⟩ := hw'
          subst hw2
          replace HO := Lib.hid (HO.out.keep hbq)
          replace HB := Lib.hid (bch' HB.out hbq)
          clear f0 g0
          clear k0 k1 k2 k3 kf0 kf1 kf2 kf3
          clear x0 x1 x2 x3 x4 x5 xf0 xf1 xf2 xf3 xf4 xf5
          clear HK HX HBW
          clear y0 y1 y2 y3 y4 y5 hbr
          have HK := Lib.hid (HK1.out.keep HB.out)
          have HX := Lib.hid (HX1.out.keep HB.out)
          have HBW : Hid (Below w.heap.size w Wq) := Lib.hid (bch' HB0.out HB.out)
          obtain ⟨k0, k1, k2, k3, kf0, kf1, kf2, kf3⟩ := HK.out.c4
          obtain ⟨x0, x1, x2, x3, x4, x5, xf0, xf1, xf2, xf3, xf4, xf5⟩ := HX.out.c6
          obtain ⟨y0, y1, y2, y3, y4, y5⟩ := HC.out.below HBW.out hb k hkl
          have hbr : b < Wq.heap.size := by have := HBW.out.size; omega
          go_wp2_with fail
          have f0 := fun p : BelowOf _ => (HK.out.keep p.h).c4.1
          have g0 := fun p : BelowOf _ => BelowOf.cell hbr y0 p
          refine wp_region_WQ (by kernel_rfl) (by kernel_rfl) ?_
          repeat (refine WQ.step (fun K hK => ?_); go_simp; first | (refine hK.out _ ?_; clear hK K) | (apply Exists.intro; refine ⟨fun _ => ?_, hK.out _ ?_⟩; (first | rfl); clear hK K))
          refine WQ.nil ?_
          intro Wr hw'
          obtain ⟨⟨wr2, hbr2⟩, hw2⟩ := hw'
          subst hw2
          replace HO := Lib.hid (HO.out.keep hbr2)
          replace HB := Lib.hid (bch' HB.out hbr2)
          clear f0 g0
          clear k0 k1 k2 k3 kf0 kf1 kf2 kf3
          clear x0 x1 x2 x3 x4 x5 xf0 xf1 xf2 xf3 xf4 xf5
          clear HK HX HBW
          clear y0 y1 y2 y3 y4 y5 hbr
          have HK := Lib.hid (HK1.out.keep HB.out)
          have HX := Lib.hid (HX1.out.keep HB.out)
          have HBW : Hid (Below w.heap.size w Wr) := Lib.hid (bch' HB0.out HB.out)
          obtain ⟨k0, k1, k2, k3, kf0, kf1, kf2, kf3⟩ := HK.out.c4
          obtain ⟨x0, x1, x2, x3, x4, x5, xf0, xf1, xf2, xf3, xf4, xf5⟩ := HX.out.c6
          obtain ⟨y0, y1, y2, y3, y4, y5⟩ := HC.out.below HBW.out hb k hkl
          have hbr : b < Wr.heap.size := by have := HBW.out.size; omega
          go_wp2_with (first | (at_builtin; refine wpList_appR3 rfl (.tmp 76) (.tmp 81) 26 rfl w3.heap.size 108 i0 (.agg #[.int .i64 0, .string ⟨#[]⟩, .int .i64 0, .int .i64 0, .int .i64 0, .int .i64 0]) 56 Tryz.underlying26 hi hz0 hz1 hz2 rfl (by decide) (by decide) pp cc n ((insK l i true (mvF nu inh l t xo xi true) k)) (HN.out) _ (fdv l k) Wr.heap.size (encF_len _) (fun j u hu => cellN _ 108 hu) (encF_one _) rfl (HO.out.keep ((Below.refl _ Wr).alloc (Nat.le_refl _) _)) rfl (by have := insK_len l i true (mvF nu inh l t xo xi true) k; have := HFEW.out; omega) (by have := HB.out.size; rw [World.size_alloc]; omega) ?_; intro p1 c1 w4 hO3 hb3 _; have HO3 := Lib.hid hO3; have HB3 := Lib.hid (HB.out.trans (((Below.refl _ Wr).alloc (by have := HB.out.size; omega) _).trans hb3)); clear hO3 hb3))
          clear HB
          have HB := HB3; clear HB3
          go_roundw
          case rel => exact ⟨k + 1, r, n + 1, p1, c1, by first | rfl | simp, by rw [HD.out], by first | rfl | simp, Lib.hid (by rw [HT.out, List.length_append, ← HN.out]; rfl), Lib.hid (by have := hkr.out; omega), HB, Lib.hid (by rw [HT.out]; exact HO3.out)⟩
          case measure => first | (simp [intOf]; done) | (simp [intOf]; omega)
end Go.Proofs.YtkjelfmgnkkijaaGreatDoor
