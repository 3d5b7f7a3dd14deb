/-
  The reference of layers 26 and 30: Same. Blocks beside stores.
-/
import Derived.Test.YtkjelfmgnkkijaaGreatDoorGk
import Derived.Test.YtkjelfmgnkkijaaGreatDoorNf
import Derived.Test.YtkjelfmgnkkijaaGreatDoorQoMz
import Derived.Test.YtkjelfmgnkkijaaGreatDoorQoHw
import Derived.Deep.RegionHeld3
set_option linter.unusedVariables false
set_option linter.unusedSimpArgs false
namespace Go.Proofs.YtkjelfmgnkkijaaGreatDoor
open Go.RowKit Go.Shelf Lum
open Go.Lib (decDigits itoa)
attribute [local go_sem] bs_get bs_extract_end bs_extract_from bs_extract bs_append

theorem neq_gain0 (W : World) (a b c : Int) : (binOp .neq 85 (.agg #[.int .i64 a, .int .i64 b, .int .i64 c]) (.agg #[.int .i64 a, .int .i64 b, .int .i64 c])).run Tryz.prog W = .ok (.bool false) W := by
  have h1 : Tryz.prog.underlying 85 = some (.struct (Tryz.prog.fieldsOf 85)) := by kernel_rfl
  have h2 : Tryz.prog.stoodInHeld 85 = false := by kernel_rfl
  rw [run_neq_struct, run_equalIn_agg W 9999 _ _ _ h1 h2]
  have hf := TypeDesc.struct.inj (Option.some.inj (h1.symm.trans Tryz.underlying85))
  rw [hf]
  simp [Op.eqFields, go_sem, Tryz.underlying3, Tryz.underlying72]

theorem eql_glide0 (W : World) (b c d : Int) (x : Txt) : (binOp .eql 24 (.agg #[.string ⟨(x).toArray⟩, .int .i64 b, .int .i64 c, .int .i64 d]) (.agg #[.string ⟨(x).toArray⟩, .int .i64 b, .int .i64 c, .int .i64 d])).run Tryz.prog W = .ok (.bool true) W := by
  have h1 : Tryz.prog.underlying 24 = some (.struct (Tryz.prog.fieldsOf 24)) := by kernel_rfl
  have h2 : Tryz.prog.stoodInHeld 24 = false := by kernel_rfl
  rw [run_eql_struct, run_equalIn_agg W 9999 _ _ _ h1 h2]
  have hf := TypeDesc.struct.inj (Option.some.inj (h1.symm.trans Tryz.underlying24))
  rw [hf]
  simp [Op.eqFields, go_sem, Tryz.underlying3, Tryz.underlying22]

set_option maxRecDepth 100000 in
set_option maxHeartbeats 4000000 in
theorem r26_same (nu pr : Int) (inh : Bool) (gs : List Gn) (g1 g2 : Value) (w : World) (hv1 : GnsAt w g1 gs) (hv2 : GnsAt w g2 gs) (hn0 : gs.length ≤ 1000000) :
    Calls Tryz.prog 69 #[.agg #[.int .i64 nu, .int .i64 pr, .bool (inh), g1], .agg #[.int .i64 nu, .int .i64 pr, .bool (inh), g2]] w fun e w' => e = .returned (.bool (true)) ∧ Below w.heap.size w w' := by
  obtain ⟨pg1, cg1, rfl, -, h1⟩ := hv1
  obtain ⟨pg2, cg2, rfl, -, h2⟩ := hv2
  have ha1 := Lib.hid h1; have ha2 := Lib.hid h2; clear h1 h2
  have hal := ((Below.refl w.heap.size w).alloc (Nat.le_refl _) (.cells #[.int .i64 nu, .int .i64 pr, .bool (inh), (.slice pg1 gs.length cg1)] 58)).alloc (by simp) (.cells #[.int .i64 nu, .int .i64 pr, .bool (inh), (.slice pg2 gs.length cg2)] 58)
  have HB0 := Lib.hid hal; clear hal
  have HK := Lib.hid ((Blk.new w 58 #[.int .i64 nu, .int .i64 pr, .bool (inh), (.slice pg1 gs.length cg1)]).alloc (.cells #[.int .i64 nu, .int .i64 pr, .bool (inh), (.slice pg2 gs.length cg2)] 58))
  have hR := Blk.new (w.alloc (.cells #[.int .i64 nu, .int .i64 pr, .bool (inh), (.slice pg1 gs.length cg1)] 58)) 58 #[.int .i64 nu, .int .i64 pr, .bool (inh), (.slice pg2 gs.length cg2)]
  rw [World.size_alloc] at hR
  have HR := Lib.hid hR; clear hR
  obtain ⟨k0, k1, k2, k3, kf0, kf1, kf2, kf3⟩ := HK.out.c4
  obtain ⟨r0, r1, r2, r3, rf0, rf1, rf2, rf3⟩ := HR.out.c4
  go_enter Tryz.func69, Tryz.ntmps69
  go_wp2_with fail
  generalize (w.alloc (.cells #[.int .i64 nu, .int .i64 pr, .bool (inh), (.slice pg1 gs.length cg1)] 58)).alloc (.cells #[.int .i64 nu, .int .i64 pr, .bool (inh), (.slice pg2 gs.length cg2)] 58) = w1 at *
  have HB := Lib.hid (Below.refl w1.heap.size w1)
  have HK1 := HK; have HR1 := HR
  go_loopw [5] (fun i wr => ∃ k r : Nat, i = .int .i64 (k : Int) ∧ Hid (k + r = gs.length) ∧ Hid (Below w1.heap.size w1 wr)) (fun i _ => gs.length - (intOf i).toNat)
  case atStart => exact ⟨0, gs.length, rfl, Lib.hid (by omega), HB⟩
  case round =>
    obtain ⟨k, r, rfl, hkr, HB2⟩ := hrel
    clear HB
    have HB := HB2; clear HB2
    clear k0 k1 k2 k3 kf0 kf1 kf2 kf3
    clear r0 r1 r2 r3 rf0 rf1 rf2 rf3
    have HK := Lib.hid (HK1.out.keep HB.out)
    have HR := Lib.hid (HR1.out.keep HB.out)
    obtain ⟨k0, k1, k2, k3, kf0, kf1, kf2, kf3⟩ := HK.out.c4
    obtain ⟨r0, r1, r2, r3, rf0, rf1, rf2, rf3⟩ := HR.out.c4
    have HBW : Hid (Below w.heap.size w wr) := Lib.hid (bch' HB0.out HB.out)
    cases r with
    | zero =>
      have hlt : ¬ (k : Int) < (gs.length : Int) := by have := hkr.out; omega
      go_wp2
      go_ret
      exact ⟨rfl, HBW.out⟩
    | succ r =>
      have hkl : k < gs.length := by have := hkr.out; omega
      have hlt : (k : Int) < (gs.length : Int) := by omega
      have hun : IntKind.i64.wrap ((k : Int) + 1) = (k : Int) + 1 := IntWalk.i64_in _ (by omega)
      obtain ⟨b, o, rfl, hb, h1⟩ := ha1.out (fun h => by subst h; simp at hkl)
      obtain ⟨d, u, rfl, hd, h2⟩ := ha2.out (fun h => by subst h; simp at hkl)
      replace h1 : GnsC w b o gs := h1
      replace h2 : GnsC w d u gs := h2
      obtain ⟨a1, a2, a3⟩ := (h1.below HBW.out hb) k hkl
      obtain ⟨b1, b2, b3⟩ := (h2.below HBW.out hd) k hkl
      clear h1 h2
      have hbr1 : b < wr.heap.size := by have := HBW.out.size; omega
      have hbr2 : d < wr.heap.size := by have := HBW.out.size; omega
      have hn := fun W => neq_gain0 W (gnv gs k).ch (gnv gs k).at_ (gnv gs k).lev
      go_wp2_with fail
      have f3 := fun p : BelowOf _ => (HK.out.keep p.h).c4.2.2.2.1
      have g3 := fun p : BelowOf _ => (HR.out.keep p.h).c4.2.2.2.1
      have x1 := fun p : BelowOf _ => BelowOf.cell hbr1 a1 p
      have x2 := fun p : BelowOf _ => BelowOf.cell hbr1 a2 p
      have x3 := fun p : BelowOf _ => BelowOf.cell hbr1 a3 p
      have y1 := fun p : BelowOf _ => BelowOf.cell hbr2 b1 p
      have y2 := fun p : BelowOf _ => BelowOf.cell hbr2 b2 p
      have y3 := fun p : BelowOf _ => BelowOf.cell hbr2 b3 p
      refine wp_region_WQ (by kernel_rfl) (by kernel_rfl) ?_
      repeat (refine WQ.step (fun K hK => ?_); go_simp; first | (refine hK.out _ ?_; clear hK K) | (apply Exists.intro; refine ⟨fun _ => ?_, hK.out _ ?_⟩; (first | rfl); clear hK K))
      refine WQ.nil ?_
      intro _ hw'
      obtain ⟨⟨wq, hbq⟩, hw2⟩ := hw'
      subst hw2
      replace HB := Lib.hid (bch' HB.out hbq)
      clear f3 g3 x1 x2 x3 y1 y2 y3
      go_wp2_with fail
      go_roundw
      case rel => exact ⟨k + 1, r, by first | rfl | simp, Lib.hid (by have := hkr.out; omega), HB⟩
      case measure => first | (simp [intOf]; done) | (simp [intOf]; omega)

set_option maxRecDepth 100000 in
set_option maxHeartbeats 4000000 in
theorem r26_sametable (su : List Sb) (va vb : Value) (w : World) (ha : SbsAt w va su) (hb : SbsAt w vb su) (hn0 : su.length ≤ 1000000) (hgn : ∀ k, k < su.length → (sbv su k).gs.length ≤ 1000000) :
    Calls Tryz.prog 70 #[va, vb] w fun e w' => e = .returned (.bool (true)) ∧ Below w.heap.size w w' := by
  obtain ⟨p1, c1, rfl, -, h1⟩ := ha
  obtain ⟨p2, c2, rfl, -, h2⟩ := hb
  have ha1 := Lib.hid h1; have ha2 := Lib.hid h2; clear h1 h2
  have HGN := Lib.hid hgn; clear hgn
  have HB := Lib.hid (Below.refl w.heap.size w)
  go_enter Tryz.func70, Tryz.ntmps70
  go_wp2_with fail
  go_loopw [5] (fun i wr => ∃ k r : Nat, i = .int .i64 (k : Int) ∧ Hid (k + r = su.length) ∧ Hid (Below w.heap.size w wr)) (fun i _ => su.length - (intOf i).toNat)
  case atStart => exact ⟨0, su.length, rfl, Lib.hid (by omega), HB⟩
  case round =>
    obtain ⟨k, r, rfl, hkr, HB2⟩ := hrel
    clear HB
    have HB := HB2; clear HB2
    cases r with
    | zero =>
      have hlt : ¬ (k : Int) < (su.length : Int) := by have := hkr.out; omega
      go_wp2
      go_ret
      exact ⟨rfl, HB.out⟩
    | succ r =>
      have hkl : k < su.length := by have := hkr.out; omega
      have hlt : (k : Int) < (su.length : Int) := by omega
      have hun : IntKind.i64.wrap ((k : Int) + 1) = (k : Int) + 1 := IntWalk.i64_in _ (by omega)
      obtain ⟨b, o, rfl, hb, h1⟩ := ha1.out (fun h => by subst h; simp at hkl)
      obtain ⟨d, u, rfl, hd, h2⟩ := ha2.out (fun h => by subst h; simp at hkl)
      obtain ⟨a1, a2, a3, g1, a4, hg1⟩ := h1.below HB.out hb k hkl
      obtain ⟨b1, b2, b3, g2, b4, hg2⟩ := h2.below HB.out hd k hkl
      clear h1 h2
      have hbr1 : b < wr.heap.size := by have := HB.out.size; omega
      have hbr2 : d < wr.heap.size := by have := HB.out.size; omega
      have hse := fun W (g : Below wr.heap.size wr W) => r26_same (sbv su k).nu (sbv su k).pr (sbv su k).inh (sbv su k).gs g1 g2 W (hg1.kept g) (hg2.kept g) (HGN.out k hkl)
      have HSE := Lib.hid hse; clear hse
      clear hg1 hg2
      go_wp2_with fail
      have x1 := fun p : BelowOf _ => BelowOf.cell hbr1 a1 p
      have x2 := fun p : BelowOf _ => BelowOf.cell hbr1 a2 p
      have x3 := fun p : BelowOf _ => BelowOf.cell hbr1 a3 p
      have x4 := fun p : BelowOf _ => BelowOf.cell hbr1 a4 p
      have y1 := fun p : BelowOf _ => BelowOf.cell hbr2 b1 p
      have y2 := fun p : BelowOf _ => BelowOf.cell hbr2 b2 p
      have y3 := fun p : BelowOf _ => BelowOf.cell hbr2 b3 p
      have y4 := fun p : BelowOf _ => BelowOf.cell hbr2 b4 p
      refine wp_region_WQ (by kernel_rfl) (by kernel_rfl) ?_
      repeat (refine WQ.step (fun K hK => ?_); go_simp; first | (refine hK.out _ ?_; clear hK K) | (apply Exists.intro; refine ⟨fun _ => ?_, hK.out _ ?_⟩; (first | rfl | (go_at_call 69; exact calls_below_of _ (HSE.out _ (BelowOf.h _)))); clear hK K))
      refine WQ.nil ?_
      intro _ hw'
      obtain ⟨⟨wq, hbq⟩, hw2⟩ := hw'
      subst hw2
      replace HB := Lib.hid (bch' HB.out hbq)
      clear x1 x2 x3 x4 y1 y2 y3 y4
      go_wp2_with fail
      go_roundw
      case rel => exact ⟨k + 1, r, by first | rfl | simp, Lib.hid (by have := hkr.out; omega), HB⟩
      case measure => first | (simp [intOf]; done) | (simp [intOf]; omega)

set_option maxRecDepth 100000 in
set_option maxHeartbeats 4000000 in
theorem r30_same (tz st ti : Int) (bl : Bool) (fr : Txt) (s1 v1 s2 v2 : Value) (su : List Sb) (fd : List Fdr) (w : World) (hs1 : SbsAt w s1 su) (hf1 : FdsAt w v1 fd) (hs2 : SbsAt w s2 su) (hf2 : FdsAt w v2 fd) (ht : TabOk su) (hn0 : fd.length ≤ 1000000) :
    Calls Tryz.prog 21 #[.agg #[.string ⟨(fr).toArray⟩, .int .i64 tz, .int .i64 st, .int .i64 ti, .bool bl, s1, v1], .agg #[.string ⟨(fr).toArray⟩, .int .i64 tz, .int .i64 st, .int .i64 ti, .bool bl, s2, v2]] w fun e w' => e = .returned (.bool (true)) ∧ Below w.heap.size w w' := by
  have hst := fun W (a : SbsAt W s1 su) (b : SbsAt W s2 su) => r26_sametable su s1 s2 W a b (by have := ht.few; omega) (fun k hk => by have := (subOk (ht.ok k hk)).few; omega)
  have hsf := fun W (a : FdsAt W v1 fd) (b : FdsAt W v2 fd) => r26_samefaders fd v1 v2 W a b hn0
  have hq := fun W => eql_glide0 W tz st ti fr
  have HST := Lib.hid hst; clear hst
  have HSF := Lib.hid hsf; clear hsf
  cases bl
  · have hal := ((Below.refl w.heap.size w).alloc (Nat.le_refl _) (.cells #[.string ⟨(fr).toArray⟩, .int .i64 tz, .int .i64 st, .int .i64 ti, .bool false, s1, v1] 32)).alloc (by simp) (.cells #[.string ⟨(fr).toArray⟩, .int .i64 tz, .int .i64 st, .int .i64 ti, .bool false, s2, v2] 32)
    have HB0 := Lib.hid hal; clear hal
    have HK := Lib.hid ((Blk.new w 32 #[.string ⟨(fr).toArray⟩, .int .i64 tz, .int .i64 st, .int .i64 ti, .bool false, s1, v1]).alloc (.cells #[.string ⟨(fr).toArray⟩, .int .i64 tz, .int .i64 st, .int .i64 ti, .bool false, s2, v2] 32))
    have hR := Blk.new (w.alloc (.cells #[.string ⟨(fr).toArray⟩, .int .i64 tz, .int .i64 st, .int .i64 ti, .bool false, s1, v1] 32)) 32 #[.string ⟨(fr).toArray⟩, .int .i64 tz, .int .i64 st, .int .i64 ti, .bool false, s2, v2]
    rw [World.size_alloc] at hR
    have HR := Lib.hid hR; clear hR
    obtain ⟨k0, k1, k2, k3, k4, k5, k6, kf0, kf1, kf2, kf3, kf4, kf5, kf6⟩ := HK.out.c7
    obtain ⟨r0, r1, r2, r3, r4, r5, r6, rf0, rf1, rf2, rf3, rf4, rf5, rf6⟩ := HR.out.c7
    have HS1 := Lib.hid (SbsAt.kept hs1 HB0.out)
    have HS2 := Lib.hid (SbsAt.kept hs2 HB0.out)
    have HF1 := Lib.hid (FdsAt.kept hf1 HB0.out)
    have HF2 := Lib.hid (FdsAt.kept hf2 HB0.out)
    have HB := HB0; clear HB0
    go_enter Tryz.func21, Tryz.ntmps21
    go_upto_region 1 with fail
    generalize (w.alloc (.cells #[.string ⟨(fr).toArray⟩, .int .i64 tz, .int .i64 st, .int .i64 ti, .bool false, s1, v1] 32)).alloc (.cells #[.string ⟨(fr).toArray⟩, .int .i64 tz, .int .i64 st, .int .i64 ti, .bool false, s2, v2] 32) = w1 at *
    go_wp2_with (first | (with_reducible refine ((HST.out _ HS1.out HS2.out).mono ?_); rintro e w' ⟨rfl, hb⟩; replace HK := Lib.hid (HK.out.keep hb); clear k0 k1 k2 k3 k4 k5 k6 kf0 kf1 kf2 kf3 kf4 kf5 kf6; replace HR := Lib.hid (HR.out.keep hb); clear r0 r1 r2 r3 r4 r5 r6 rf0 rf1 rf2 rf3 rf4 rf5 rf6; replace HS1 := Lib.hid (SbsAt.kept HS1.out hb); replace HS2 := Lib.hid (SbsAt.kept HS2.out hb); replace HF1 := Lib.hid (FdsAt.kept HF1.out hb); replace HF2 := Lib.hid (FdsAt.kept HF2.out hb); replace HB := Lib.hid (bch' HB.out hb); clear hb; obtain ⟨k0, k1, k2, k3, k4, k5, k6, kf0, kf1, kf2, kf3, kf4, kf5, kf6⟩ := HK.out.c7; obtain ⟨r0, r1, r2, r3, r4, r5, r6, rf0, rf1, rf2, rf3, rf4, rf5, rf6⟩ := HR.out.c7) | (with_reducible refine ((HSF.out _ HF1.out HF2.out).mono ?_); rintro e w' ⟨rfl, hb⟩; replace HK := Lib.hid (HK.out.keep hb); clear k0 k1 k2 k3 k4 k5 k6 kf0 kf1 kf2 kf3 kf4 kf5 kf6; replace HR := Lib.hid (HR.out.keep hb); clear r0 r1 r2 r3 r4 r5 r6 rf0 rf1 rf2 rf3 rf4 rf5 rf6; replace HS1 := Lib.hid (SbsAt.kept HS1.out hb); replace HS2 := Lib.hid (SbsAt.kept HS2.out hb); replace HF1 := Lib.hid (FdsAt.kept HF1.out hb); replace HF2 := Lib.hid (FdsAt.kept HF2.out hb); replace HB := Lib.hid (bch' HB.out hb); clear hb; obtain ⟨k0, k1, k2, k3, k4, k5, k6, kf0, kf1, kf2, kf3, kf4, kf5, kf6⟩ := HK.out.c7; obtain ⟨r0, r1, r2, r3, r4, r5, r6, rf0, rf1, rf2, rf3, rf4, rf5, rf6⟩ := HR.out.c7))
    go_ret
    exact ⟨rfl, HB.out⟩
  · have hal := ((Below.refl w.heap.size w).alloc (Nat.le_refl _) (.cells #[.string ⟨(fr).toArray⟩, .int .i64 tz, .int .i64 st, .int .i64 ti, .bool true, s1, v1] 32)).alloc (by simp) (.cells #[.string ⟨(fr).toArray⟩, .int .i64 tz, .int .i64 st, .int .i64 ti, .bool true, s2, v2] 32)
    have HB0 := Lib.hid hal; clear hal
    have HK := Lib.hid ((Blk.new w 32 #[.string ⟨(fr).toArray⟩, .int .i64 tz, .int .i64 st, .int .i64 ti, .bool true, s1, v1]).alloc (.cells #[.string ⟨(fr).toArray⟩, .int .i64 tz, .int .i64 st, .int .i64 ti, .bool true, s2, v2] 32))
    have hR := Blk.new (w.alloc (.cells #[.string ⟨(fr).toArray⟩, .int .i64 tz, .int .i64 st, .int .i64 ti, .bool true, s1, v1] 32)) 32 #[.string ⟨(fr).toArray⟩, .int .i64 tz, .int .i64 st, .int .i64 ti, .bool true, s2, v2]
    rw [World.size_alloc] at hR
    have HR := Lib.hid hR; clear hR
    obtain ⟨k0, k1, k2, k3, k4, k5, k6, kf0, kf1, kf2, kf3, kf4, kf5, kf6⟩ := HK.out.c7
    obtain ⟨r0, r1, r2, r3, r4, r5, r6, rf0, rf1, rf2, rf3, rf4, rf5, rf6⟩ := HR.out.c7
    have HS1 := Lib.hid (SbsAt.kept hs1 HB0.out)
    have HS2 := Lib.hid (SbsAt.kept hs2 HB0.out)
    have HF1 := Lib.hid (FdsAt.kept hf1 HB0.out)
    have HF2 := Lib.hid (FdsAt.kept hf2 HB0.out)
    have HB := HB0; clear HB0
    go_enter Tryz.func21, Tryz.ntmps21
    go_upto_region 1 with fail
    generalize (w.alloc (.cells #[.string ⟨(fr).toArray⟩, .int .i64 tz, .int .i64 st, .int .i64 ti, .bool true, s1, v1] 32)).alloc (.cells #[.string ⟨(fr).toArray⟩, .int .i64 tz, .int .i64 st, .int .i64 ti, .bool true, s2, v2] 32) = w1 at *
    go_wp2_with (first | (with_reducible refine ((HST.out _ HS1.out HS2.out).mono ?_); rintro e w' ⟨rfl, hb⟩; replace HK := Lib.hid (HK.out.keep hb); clear k0 k1 k2 k3 k4 k5 k6 kf0 kf1 kf2 kf3 kf4 kf5 kf6; replace HR := Lib.hid (HR.out.keep hb); clear r0 r1 r2 r3 r4 r5 r6 rf0 rf1 rf2 rf3 rf4 rf5 rf6; replace HS1 := Lib.hid (SbsAt.kept HS1.out hb); replace HS2 := Lib.hid (SbsAt.kept HS2.out hb); replace HF1 := Lib.hid (FdsAt.kept HF1.out hb); replace HF2 := Lib.hid (FdsAt.kept HF2.out hb); replace HB := Lib.hid (bch' HB.out hb); clear hb; obtain ⟨k0, k1, k2, k3, k4, k5, k6, kf0, kf1, kf2, kf3, kf4, kf5, kf6⟩ := HK.out.c7; obtain ⟨r0, r1, r2, r3, r4, r5, r6, rf0, rf1, rf2, rf3, rf4, rf5, rf6⟩ := HR.out.c7) | (with_reducible refine ((HSF.out _ HF1.out HF2.out).mono ?_); rintro e w' ⟨rfl, hb⟩; replace HK := Lib.hid (HK.out.keep hb); clear k0 k1 k2 k3 k4 k5 k6 kf0 kf1 kf2 kf3 kf4 kf5 kf6; replace HR := Lib.hid (HR.out.keep hb); clear r0 r1 r2 r3 r4 r5 r6 rf0 rf1 rf2 rf3 rf4 rf5 rf6; replace HS1 := Lib.hid (SbsAt.kept HS1.out hb); replace HS2 := Lib.hid (SbsAt.kept HS2.out hb); replace HF1 := Lib.hid (FdsAt.kept HF1.out hb); replace HF2 := Lib.hid (FdsAt.kept HF2.out hb); replace HB := Lib.hid (bch' HB.out hb); clear hb; obtain ⟨k0, k1, k2, k3, k4, k5, k6, kf0, kf1, kf2, kf3, kf4, kf5, kf6⟩ := HK.out.c7; obtain ⟨r0, r1, r2, r3, r4, r5, r6, rf0, rf1, rf2, rf3, rf4, rf5, rf6⟩ := HR.out.c7))
    go_ret
    exact ⟨rfl, HB.out⟩
end Go.Proofs.YtkjelfmgnkkijaaGreatDoor
namespace Lum
open Go Go.RowKit Go.Shelf
open Go.Lib (decDigits itoa)
theorem Blk.far7 {w : World} {g n : Nat} {t : TypeId} {cs : Array Value} (h : Blk w g t cs) (hn : g ≠ n) (b0 b1 b2 b3 b4 b5 b6 : Value) : Blk (((((((w.setCell ⟨n, 0, none⟩ b0).setCell ⟨n, 1, none⟩ b1).setCell ⟨n, 2, none⟩ b2).setCell ⟨n, 3, none⟩ b3).setCell ⟨n, 4, none⟩ b4).setCell ⟨n, 5, none⟩ b5).setCell ⟨n, 6, none⟩ b6) g t cs := ((h.far4 hn b0 b1 b2 b3).far hn b4 |>.far hn b5).far hn b6
theorem bset7 {B : Nat} {a w : World} (h : Below B a w) {n : Nat} (hn : B ≤ n) (b0 b1 b2 b3 b4 b5 b6 : Value) : Below B a (((((((w.setCell ⟨n, 0, none⟩ b0).setCell ⟨n, 1, none⟩ b1).setCell ⟨n, 2, none⟩ b2).setCell ⟨n, 3, none⟩ b3).setCell ⟨n, 4, none⟩ b4).setCell ⟨n, 5, none⟩ b5).setCell ⟨n, 6, none⟩ b6) :=
  (((bset4 h hn b0 b1 b2 b3).setCell (p := ⟨n, 4, none⟩) hn b4).setCell (p := ⟨n, 5, none⟩) hn b5).setCell (p := ⟨n, 6, none⟩) hn b6
theorem sbs_nil (W : World) : SbsAt W (.slice none 0 0) [] := ⟨none, 0, rfl, Nat.le_refl _, fun h => absurd rfl h⟩
theorem tab_nil : TabOk [] := ⟨by simp, fun j h => absurd h (Nat.not_lt_zero j), fun j h => absurd h (Nat.not_lt_zero j)⟩
end Lum
