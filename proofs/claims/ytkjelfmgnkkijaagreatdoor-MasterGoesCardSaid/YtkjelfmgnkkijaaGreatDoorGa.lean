/-
  The reference of layers 26 and 30: Same. Glides: Go of the program and of the reference. Masters: Go of the program and of the reference. The law MasterGoes.
-/
import Derived.Test.YtkjelfmgnkkijaaGreatDoorMz
import Derived.Test.YtkjelfmgnkkijaaGreatDoorHw
import Derived.Deep.RegionHeld3
set_option linter.unusedVariables false
set_option linter.unusedSimpArgs false
namespace Go.Proofs.YtkjelfmgnkkijaaGreatDoor
open Go.RowKit Go.Shelf Lum
open Go.Lib (decDigits itoa)
attribute [local go_sem] bs_get bs_extract_end bs_extract_from bs_extract bs_append

theorem neq_gain0 (W : World) (a b c : Int) : (binOp .neq 85 (.agg #[.int .i64 a, .int .i64 b, .int .i64 c]) (.agg #[.int .i64 a, .int .i64 b, .int .i64 c])).run Tryz.prog W = .ok (.bool false) W := by
  have h1 : Tryz.prog.underlying 85 = some (.struct (Tryz.prog.fieldsOf 85)) := by kernel_rfl
  have h2 : Tryz.prog.stoodInHeld 85 = false := by kernel_rfl
  rw [run_neq_struct, run_equalIn_agg W 9999 _ _ _ h1 h2]
  have hf := TypeDesc.struct.inj (Option.some.inj (h1.symm.trans Tryz.underlying85))
  rw [hf]
  simp [Op.eqFields, go_sem, Tryz.underlying3, Tryz.underlying72]

theorem neq_fader0 (W : World) (a b c d e : Int) (x : Txt) : (binOp .neq 108 (.agg #[.int .i64 a, .string ⟨(x).toArray⟩, .int .i64 b, .int .i64 c, .int .i64 d, .int .i64 e]) (.agg #[.int .i64 a, .string ⟨(x).toArray⟩, .int .i64 b, .int .i64 c, .int .i64 d, .int .i64 e])).run Tryz.prog W = .ok (.bool false) W := by
  have h1 : Tryz.prog.underlying 108 = some (.struct (Tryz.prog.fieldsOf 108)) := by kernel_rfl
  have h2 : Tryz.prog.stoodInHeld 108 = false := by kernel_rfl
  rw [run_neq_struct, run_equalIn_agg W 9999 _ _ _ h1 h2]
  have hf := TypeDesc.struct.inj (Option.some.inj (h1.symm.trans Tryz.underlying108))
  rw [hf]
  simp [Op.eqFields, go_sem, Tryz.underlying3, Tryz.underlying24, Tryz.underlying22]

theorem eql_glide0 (W : World) (b c d : Int) (x : Txt) : (binOp .eql 24 (.agg #[.string ⟨(x).toArray⟩, .int .i64 b, .int .i64 c, .int .i64 d]) (.agg #[.string ⟨(x).toArray⟩, .int .i64 b, .int .i64 c, .int .i64 d])).run Tryz.prog W = .ok (.bool true) W := by
  have h1 : Tryz.prog.underlying 24 = some (.struct (Tryz.prog.fieldsOf 24)) := by kernel_rfl
  have h2 : Tryz.prog.stoodInHeld 24 = false := by kernel_rfl
  rw [run_eql_struct, run_equalIn_agg W 9999 _ _ _ h1 h2]
  have hf := TypeDesc.struct.inj (Option.some.inj (h1.symm.trans Tryz.underlying24))
  rw [hf]
  simp [Op.eqFields, go_sem, Tryz.underlying3, Tryz.underlying22]

set_option maxRecDepth 100000 in
set_option maxHeartbeats 4000000 in
theorem r26_same (nu pr : Int) (inh : Bool) (gs : List Gn) (g1 g2 : Value) (w : World) (hv1 : GnsAt w g1 gs) (hv2 : GnsAt w g2 gs) (hn0 : gs.length ≤ 1000000) :
    Calls Tryz.prog 69 #[.agg #[.int .i64 nu, .int .i64 pr, .bool (inh), g1], .agg #[.int .i64 nu, .int .i64 pr, .bool (inh), g2]] w fun e w' => e = .returned (.bool (true)) ∧ Below w.heap.size w w' := by
  obtain ⟨pg1, cg1, rfl, -, h1⟩ := hv1
  obtain ⟨pg2, cg2, rfl, -, h2⟩ := hv2
  have ha1 := Lib.hid h1; have ha2 := Lib.hid h2; clear h1 h2
  have hal := ((Below.refl w.heap.size w).alloc (Nat.le_refl _) (.cells #[.int .i64 nu, .int .i64 pr, .bool (inh), (.slice pg1 gs.length cg1)] 58)).alloc (by simp) (.cells #[.int .i64 nu, .int .i64 pr, .bool (inh), (.slice pg2 gs.length cg2)] 58)
  have HB0 := Lib.hid hal; clear hal
  have HK := Lib.hid ((Blk.new w 58 #[.int .i64 nu, .int .i64 pr, .bool (inh), (.slice pg1 gs.length cg1)]).alloc (.cells #[.int .i64 nu, .int .i64 pr, .bool (inh), (.slice pg2 gs.length cg2)] 58))
  have hR := Blk.new (w.alloc (.cells #[.int .i64 nu, .int .i64 pr, .bool (inh), (.slice pg1 gs.length cg1)] 58)) 58 #[.int .i64 nu, .int .i64 pr, .bool (inh), (.slice pg2 gs.length cg2)]
  rw [World.size_alloc] at hR
  have HR := Lib.hid hR; clear hR
  obtain ⟨k0, k1, k2, k3, kf0, kf1, kf2, kf3⟩ := HK.out.c4
  obtain ⟨r0, r1, r2, r3, rf0, rf1, rf2, rf3⟩ := HR.out.c4
  go_enter Tryz.func69, Tryz.ntmps69
  go_wp2_with fail
  generalize (w.alloc (.cells #[.int .i64 nu, .int .i64 pr, .bool (inh), (.slice pg1 gs.length cg1)] 58)).alloc (.cells #[.int .i64 nu, .int .i64 pr, .bool (inh), (.slice pg2 gs.length cg2)] 58) = w1 at *
  have HB := Lib.hid (Below.refl w1.heap.size w1)
  have HK1 := HK; have HR1 := HR
  go_loopw [5] (fun i wr => ∃ k r : Nat, i = .int .i64 (k : Int) ∧ Hid (k + r = gs.length) ∧ Hid (Below w1.heap.size w1 wr)) (fun i _ => gs.length - (intOf i).toNat)
  case atStart => exact ⟨0, gs.length, rfl, Lib.hid (by omega), HB⟩
  case round =>
    obtain ⟨k, r, rfl, hkr, HB2⟩ := hrel
    clear HB
    have HB := HB2; clear HB2
    clear k0 k1 k2 k3 kf0 kf1 kf2 kf3
    clear r0 r1 r2 r3 rf0 rf1 rf2 rf3
    have HK := Lib.hid (HK1.out.keep HB.out)
    have HR := Lib.hid (HR1.out.keep HB.out)
    obtain ⟨k0, k1, k2, k3, kf0, kf1, kf2, kf3⟩ := HK.out.c4
    obtain ⟨r0, r1, r2, r3, rf0, rf1, rf2, rf3⟩ := HR.out.c4
    have HBW : Hid (Below w.heap.size w wr) := Lib.hid (bch' HB0.out HB.out)
    cases r with
    | zero =>
      have hlt : ¬ (k : Int) < (gs.length : Int) := by have := hkr.out; omega
      go_wp2
      go_ret
      exact ⟨rfl, HBW.out⟩
    | succ r =>
      have hkl : k < gs.length := by have := hkr.out; omega
      have hlt : (k : Int) < (gs.length : Int) := by omega
      have hun : IntKind.i64.wrap ((k : Int) + 1) = (k : Int) + 1 := IntWalk.i64_in _ (by omega)
      obtain ⟨b, o, rfl, hb, h1⟩ := ha1.out (fun h => by subst h; simp at hkl)
      obtain ⟨d, u, rfl, hd, h2⟩ := ha2.out (fun h => by subst h; simp at hkl)
      replace h1 : GnsC w b o gs := h1
      replace h2 : GnsC w d u gs := h2
      obtain ⟨a1, a2, a3⟩ := (h1.below HBW.out hb) k hkl
      obtain ⟨b1, b2, b3⟩ := (h2.below HBW.out hd) k hkl
      clear h1 h2
      have hbr1 : b < wr.heap.size := by have := HBW.out.size; omega
      have hbr2 : d < wr.heap.size := by have := HBW.out.size; omega
      have hn := fun W => neq_gain0 W (gnv gs k).ch (gnv gs k).at_ (gnv gs k).lev
      go_wp2_with fail
      have f3 := fun p : BelowOf _ => (HK.out.keep p.h).c4.2.2.2.1
      have g3 := fun p : BelowOf _ => (HR.out.keep p.h).c4.2.2.2.1
      have x1 := fun p : BelowOf _ => BelowOf.cell hbr1 a1 p
      have x2 := fun p : BelowOf _ => BelowOf.cell hbr1 a2 p
      have x3 := fun p : BelowOf _ => BelowOf.cell hbr1 a3 p
      have y1 := fun p : BelowOf _ => BelowOf.cell hbr2 b1 p
      have y2 := fun p : BelowOf _ => BelowOf.cell hbr2 b2 p
      have y3 := fun p : BelowOf _ => BelowOf.cell hbr2 b3 p
      refine wp_region_WQ (by kernel_rfl) (by kernel_rfl) ?_
      repeat (refine WQ.step (fun K hK => ?_); go_simp; first | (refine hK.out _ ?_; clear hK K) | (apply Exists.intro; refine ⟨fun _ => ?_, hK.out _ ?_⟩; (first | rfl); clear hK K))
      refine WQ.nil ?_
      intro _ hw'
      obtain ⟨⟨wq, hbq⟩, hw2⟩ := hw'
      subst hw2
      replace HB := Lib.hid (bch' HB.out hbq)
      clear f3 g3 x1 x2 x3 y1 y2 y3
      go_wp2_with fail
      go_roundw
      case rel => exact ⟨k + 1, r, by first | rfl | simp, Lib.hid (by have := hkr.out; omega), HB⟩
      case measure => first | (simp [intOf]; done) | (simp [intOf]; omega)

set_option maxRecDepth 100000 in
set_option maxHeartbeats 4000000 in
theorem r26_sametable (su : List Sb) (va vb : Value) (w : World) (ha : SbsAt w va su) (hb : SbsAt w vb su) (hn0 : su.length ≤ 1000000) (hgn : ∀ k, k < su.length → (sbv su k).gs.length ≤ 1000000) :
    Calls Tryz.prog 70 #[va, vb] w fun e w' => e = .returned (.bool (true)) ∧ Below w.heap.size w w' := by
  obtain ⟨p1, c1, rfl, -, h1⟩ := ha
  obtain ⟨p2, c2, rfl, -, h2⟩ := hb
  have ha1 := Lib.hid h1; have ha2 := Lib.hid h2; clear h1 h2
  have HGN := Lib.hid hgn; clear hgn
  have HB := Lib.hid (Below.refl w.heap.size w)
  go_enter Tryz.func70, Tryz.ntmps70
  go_wp2_with fail
  go_loopw [5] (fun i wr => ∃ k r : Nat, i = .int .i64 (k : Int) ∧ Hid (k + r = su.length) ∧ Hid (Below w.heap.size w wr)) (fun i _ => su.length - (intOf i).toNat)
  case atStart => exact ⟨0, su.length, rfl, Lib.hid (by omega), HB⟩
  case round =>
    obtain ⟨k, r, rfl, hkr, HB2⟩ := hrel
    clear HB
    have HB := HB2; clear HB2
    cases r with
    | zero =>
      have hlt : ¬ (k : Int) < (su.length : Int) := by have := hkr.out; omega
      go_wp2
      go_ret
      exact ⟨rfl, HB.out⟩
    | succ r =>
      have hkl : k < su.length := by have := hkr.out; omega
      have hlt : (k : Int) < (su.length : Int) := by omega
      have hun : IntKind.i64.wrap ((k : Int) + 1) = (k : Int) + 1 := IntWalk.i64_in _ (by omega)
      obtain ⟨b, o, rfl, hb, h1⟩ := ha1.out (fun h => by subst h; simp at hkl)
      obtain ⟨d, u, rfl, hd, h2⟩ := ha2.out (fun h => by subst h; simp at hkl)
      obtain ⟨a1, a2, a3, g1, a4, hg1⟩ := h1.below HB.out hb k hkl
      obtain ⟨b1, b2, b3, g2, b4, hg2⟩ := h2.below HB.out hd k hkl
      clear h1 h2
      have hbr1 : b < wr.heap.size := by have := HB.out.size; omega
      have hbr2 : d < wr.heap.size := by have := HB.out.size; omega
      have hse := fun W (g : Below wr.heap.size wr W) => r26_same (sbv su k).nu (sbv su k).pr (sbv su k).inh (sbv su k).gs g1 g2 W (hg1.kept g) (hg2.kept g) (HGN.out k hkl)
      have HSE := Lib.hid hse; clear hse
      clear hg1 hg2
      go_wp2_with fail
      have x1 := fun p : BelowOf _ => BelowOf.cell hbr1 a1 p
      have x2 := fun p : BelowOf _ => BelowOf.cell hbr1 a2 p
      have x3 := fun p : BelowOf _ => BelowOf.cell hbr1 a3 p
      have x4 := fun p : BelowOf _ => BelowOf.cell hbr1 a4 p
      have y1 := fun p : BelowOf _ => BelowOf.cell hbr2 b1 p
      have y2 := fun p : BelowOf _ => BelowOf.cell hbr2 b2 p
      have y3 := fun p : BelowOf _ => BelowOf.cell hbr2 b3 p
      have y4 := fun p : BelowOf _ => BelowOf.cell hbr2 b4 p
      refine wp_region_WQ (by kernel_rfl) (by kernel_rfl) ?_
      repeat (refine WQ.step (fun K hK => ?_); go_simp; first | (refine hK.out _ ?_; clear hK K) | (apply Exists.intro; refine ⟨fun _ => ?_, hK.out _ ?_⟩; (first | rfl | (go_at_call 69; exact calls_below_of _ (HSE.out _ (BelowOf.h _)))); clear hK K))
      refine WQ.nil ?_
      intro _ hw'
      obtain ⟨⟨wq, hbq⟩, hw2⟩ := hw'
      subst hw2
      replace HB := Lib.hid (bch' HB.out hbq)
      clear x1 x2 x3 x4 y1 y2 y3 y4
      go_wp2_with fail
      go_roundw
      case rel => exact ⟨k + 1, r, by first | rfl | simp, Lib.hid (by have := hkr.out; omega), HB⟩
      case measure => first | (simp [intOf]; done) | (simp [intOf]; omega)

set_option maxRecDepth 100000 in
set_option maxHeartbeats 4000000 in
theorem r26_samefaders (fd : List Fdr) (va vb : Value) (w : World) (ha : FdsAt w va fd) (hb : FdsAt w vb fd) (hn0 : fd.length ≤ 1000000) :
    Calls Tryz.prog 36 #[va, vb] w fun e w' => e = .returned (.bool (true)) ∧ Below w.heap.size w w' := by
  obtain ⟨p1, c1, rfl, -, h1⟩ := ha
  obtain ⟨p2, c2, rfl, -, h2⟩ := hb
  have ha1 := Lib.hid h1; have ha2 := Lib.hid h2; clear h1 h2
  have HB := Lib.hid (Below.refl w.heap.size w)
  go_enter Tryz.func36, Tryz.ntmps36
  go_wp2_with fail
  go_loopw [5] (fun i wr => ∃ k r : Nat, i = .int .i64 (k : Int) ∧ Hid (k + r = fd.length) ∧ Hid (Below w.heap.size w wr)) (fun i _ => fd.length - (intOf i).toNat)
  case atStart => exact ⟨0, fd.length, rfl, Lib.hid (by omega), HB⟩
  case round =>
    obtain ⟨k, r, rfl, hkr, HB2⟩ := hrel
    clear HB
    have HB := HB2; clear HB2
    cases r with
    | zero =>
      have hlt : ¬ (k : Int) < (fd.length : Int) := by have := hkr.out; omega
      go_wp2
      go_ret
      exact ⟨rfl, HB.out⟩
    | succ r =>
      have hkl : k < fd.length := by have := hkr.out; omega
      have hlt : (k : Int) < (fd.length : Int) := by omega
      have hun : IntKind.i64.wrap ((k : Int) + 1) = (k : Int) + 1 := IntWalk.i64_in _ (by omega)
      obtain ⟨b, o, rfl, hb, h1⟩ := ha1.out (fun h => by subst h; simp at hkl)
      obtain ⟨d, u, rfl, hd, h2⟩ := ha2.out (fun h => by subst h; simp at hkl)
      replace h1 : FdsC w b o fd := h1
      replace h2 : FdsC w d u fd := h2
      obtain ⟨a1, a2, a3, a4, a5, a6⟩ := h1.below HB.out hb k hkl
      obtain ⟨b1, b2, b3, b4, b5, b6⟩ := h2.below HB.out hd k hkl
      clear h1 h2
      have hbr1 : b < wr.heap.size := by have := HB.out.size; omega
      have hbr2 : d < wr.heap.size := by have := HB.out.size; omega
      have hn := fun W => neq_fader0 W (fdv fd k).su (fdv fd k).tz (fdv fd k).st (fdv fd k).ti (fdv fd k).stp (fdv fd k).fr
      go_wp2_with fail
      have x1 := fun p : BelowOf _ => BelowOf.cell hbr1 a1 p
      have x2 := fun p : BelowOf _ => BelowOf.cell hbr1 a2 p
      have x3 := fun p : BelowOf _ => BelowOf.cell hbr1 a3 p
      have x4 := fun p : BelowOf _ => BelowOf.cell hbr1 a4 p
      have x5 := fun p : BelowOf _ => BelowOf.cell hbr1 a5 p
      have x6 := fun p : BelowOf _ => BelowOf.cell hbr1 a6 p
      have y1 := fun p : BelowOf _ => BelowOf.cell hbr2 b1 p
      have y2 := fun p : BelowOf _ => BelowOf.cell hbr2 b2 p
      have y3 := fun p : BelowOf _ => BelowOf.cell hbr2 b3 p
      have y4 := fun p : BelowOf _ => BelowOf.cell hbr2 b4 p
      have y5 := fun p : BelowOf _ => BelowOf.cell hbr2 b5 p
      have y6 := fun p : BelowOf _ => BelowOf.cell hbr2 b6 p
      refine wp_region_WQ (by kernel_rfl) (by kernel_rfl) ?_
      repeat (refine WQ.step (fun K hK => ?_); go_simp; first | (refine hK.out _ ?_; clear hK K) | (apply Exists.intro; refine ⟨fun _ => ?_, hK.out _ ?_⟩; (first | rfl); clear hK K))
      refine WQ.nil ?_
      intro _ hw'
      obtain ⟨⟨wq, hbq⟩, hw2⟩ := hw'
      subst hw2
      replace HB := Lib.hid (bch' HB.out hbq)
      clear x1 x2 x3 x4 x5 x6 y1 y2 y3 y4 y5 y6
      go_wp2_with fail
      go_roundw
      case rel => exact ⟨k + 1, r, by first | rfl | simp, Lib.hid (by have := hkr.out; omega), HB⟩
      case measure => first | (simp [intOf]; done) | (simp [intOf]; omega)

set_option maxRecDepth 100000 in
set_option maxHeartbeats 4000000 in
theorem r30_same (tz st ti : Int) (bl : Bool) (fr : Txt) (s1 v1 s2 v2 : Value) (su : List Sb) (fd : List Fdr) (w : World) (hs1 : SbsAt w s1 su) (hf1 : FdsAt w v1 fd) (hs2 : SbsAt w s2 su) (hf2 : FdsAt w v2 fd) (ht : TabOk su) (hn0 : fd.length ≤ 1000000) :
    Calls Tryz.prog 21 #[.agg #[.string ⟨(fr).toArray⟩, .int .i64 tz, .int .i64 st, .int .i64 ti, .bool bl, s1, v1], .agg #[.string ⟨(fr).toArray⟩, .int .i64 tz, .int .i64 st, .int .i64 ti, .bool bl, s2, v2]] w fun e w' => e = .returned (.bool (true)) ∧ Below w.heap.size w w' := by
  have hst := fun W (a : SbsAt W s1 su) (b : SbsAt W s2 su) => r26_sametable su s1 s2 W a b (by have := ht.few; omega) (fun k hk => by have := (subOk (ht.ok k hk)).few; omega)
  have hsf := fun W (a : FdsAt W v1 fd) (b : FdsAt W v2 fd) => r26_samefaders fd v1 v2 W a b hn0
  have hq := fun W => eql_glide0 W tz st ti fr
  have HST := Lib.hid hst; clear hst
  have HSF := Lib.hid hsf; clear hsf
  cases bl
  · have hal := ((Below.refl w.heap.size w).alloc (Nat.le_refl _) (.cells #[.string ⟨(fr).toArray⟩, .int .i64 tz, .int .i64 st, .int .i64 ti, .bool false, s1, v1] 32)).alloc (by simp) (.cells #[.string ⟨(fr).toArray⟩, .int .i64 tz, .int .i64 st, .int .i64 ti, .bool false, s2, v2] 32)
    have HB0 := Lib.hid hal; clear hal
    have HK := Lib.hid ((Blk.new w 32 #[.string ⟨(fr).toArray⟩, .int .i64 tz, .int .i64 st, .int .i64 ti, .bool false, s1, v1]).alloc (.cells #[.string ⟨(fr).toArray⟩, .int .i64 tz, .int .i64 st, .int .i64 ti, .bool false, s2, v2] 32))
    have hR := Blk.new (w.alloc (.cells #[.string ⟨(fr).toArray⟩, .int .i64 tz, .int .i64 st, .int .i64 ti, .bool false, s1, v1] 32)) 32 #[.string ⟨(fr).toArray⟩, .int .i64 tz, .int .i64 st, .int .i64 ti, .bool false, s2, v2]
    rw [World.size_alloc] at hR
    have HR := Lib.hid hR; clear hR
    obtain ⟨k0, k1, k2, k3, k4, k5, k6, kf0, kf1, kf2, kf3, kf4, kf5, kf6⟩ := HK.out.c7
    obtain ⟨r0, r1, r2, r3, r4, r5, r6, rf0, rf1, rf2, rf3, rf4, rf5, rf6⟩ := HR.out.c7
    have HS1 := Lib.hid (SbsAt.kept hs1 HB0.out)
    have HS2 := Lib.hid (SbsAt.kept hs2 HB0.out)
    have HF1 := Lib.hid (FdsAt.kept hf1 HB0.out)
    have HF2 := Lib.hid (FdsAt.kept hf2 HB0.out)
    have HB := HB0; clear HB0
    go_enter Tryz.func21, Tryz.ntmps21
    go_upto_region 1 with fail
    generalize (w.alloc (.cells #[.string ⟨(fr).toArray⟩, .int .i64 tz, .int .i64 st, .int .i64 ti, .bool false, s1, v1] 32)).alloc (.cells #[.string ⟨(fr).toArray⟩, .int .i64 tz, .int .i64 st, .int .i64 ti, .bool false, s2, v2] 32) = w1 at *
    go_wp2_with (first | (with_reducible refine ((HST.out _ HS1.out HS2.out).mono ?_); rintro e w' ⟨rfl, hb⟩; replace HK := Lib.hid (HK.out.keep hb); clear k0 k1 k2 k3 k4 k5 k6 kf0 kf1 kf2 kf3 kf4 kf5 kf6; replace HR := Lib.hid (HR.out.keep hb); clear r0 r1 r2 r3 r4 r5 r6 rf0 rf1 rf2 rf3 rf4 rf5 rf6; replace HS1 := Lib.hid (SbsAt.kept HS1.out hb); replace HS2 := Lib.hid (SbsAt.kept HS2.out hb); replace HF1 := Lib.hid (FdsAt.kept HF1.out hb); replace HF2 := Lib.hid (FdsAt.kept HF2.out hb); replace HB := Lib.hid (bch' HB.out hb); clear hb; obtain ⟨k0, k1, k2, k3, k4, k5, k6, kf0, kf1, kf2, kf3, kf4, kf5, kf6⟩ := HK.out.c7; obtain ⟨r0, r1, r2, r3, r4, r5, r6, rf0, rf1, rf2, rf3, rf4, rf5, rf6⟩ := HR.out.c7) | (with_reducible refine ((HSF.out _ HF1.out HF2.out).mono ?_); rintro e w' ⟨rfl, hb⟩; replace HK := Lib.hid (HK.out.keep hb); clear k0 k1 k2 k3 k4 k5 k6 kf0 kf1 kf2 kf3 kf4 kf5 kf6; replace HR := Lib.hid (HR.out.keep hb); clear r0 r1 r2 r3 r4 r5 r6 rf0 rf1 rf2 rf3 rf4 rf5 rf6; replace HS1 := Lib.hid (SbsAt.kept HS1.out hb); replace HS2 := Lib.hid (SbsAt.kept HS2.out hb); replace HF1 := Lib.hid (FdsAt.kept HF1.out hb); replace HF2 := Lib.hid (FdsAt.kept HF2.out hb); replace HB := Lib.hid (bch' HB.out hb); clear hb; obtain ⟨k0, k1, k2, k3, k4, k5, k6, kf0, kf1, kf2, kf3, kf4, kf5, kf6⟩ := HK.out.c7; obtain ⟨r0, r1, r2, r3, r4, r5, r6, rf0, rf1, rf2, rf3, rf4, rf5, rf6⟩ := HR.out.c7))
    go_ret
    exact ⟨rfl, HB.out⟩
  · have hal := ((Below.refl w.heap.size w).alloc (Nat.le_refl _) (.cells #[.string ⟨(fr).toArray⟩, .int .i64 tz, .int .i64 st, .int .i64 ti, .bool true, s1, v1] 32)).alloc (by simp) (.cells #[.string ⟨(fr).toArray⟩, .int .i64 tz, .int .i64 st, .int .i64 ti, .bool true, s2, v2] 32)
    have HB0 := Lib.hid hal; clear hal
    have HK := Lib.hid ((Blk.new w 32 #[.string ⟨(fr).toArray⟩, .int .i64 tz, .int .i64 st, .int .i64 ti, .bool true, s1, v1]).alloc (.cells #[.string ⟨(fr).toArray⟩, .int .i64 tz, .int .i64 st, .int .i64 ti, .bool true, s2, v2] 32))
    have hR := Blk.new (w.alloc (.cells #[.string ⟨(fr).toArray⟩, .int .i64 tz, .int .i64 st, .int .i64 ti, .bool true, s1, v1] 32)) 32 #[.string ⟨(fr).toArray⟩, .int .i64 tz, .int .i64 st, .int .i64 ti, .bool true, s2, v2]
    rw [World.size_alloc] at hR
    have HR := Lib.hid hR; clear hR
    obtain ⟨k0, k1, k2, k3, k4, k5, k6, kf0, kf1, kf2, kf3, kf4, kf5, kf6⟩ := HK.out.c7
    obtain ⟨r0, r1, r2, r3, r4, r5, r6, rf0, rf1, rf2, rf3, rf4, rf5, rf6⟩ := HR.out.c7
    have HS1 := Lib.hid (SbsAt.kept hs1 HB0.out)
    have HS2 := Lib.hid (SbsAt.kept hs2 HB0.out)
    have HF1 := Lib.hid (FdsAt.kept hf1 HB0.out)
    have HF2 := Lib.hid (FdsAt.kept hf2 HB0.out)
    have HB := HB0; clear HB0
    go_enter Tryz.func21, Tryz.ntmps21
    go_upto_region 1 with fail
    generalize (w.alloc (.cells #[.string ⟨(fr).toArray⟩, .int .i64 tz, .int .i64 st, .int .i64 ti, .bool true, s1, v1] 32)).alloc (.cells #[.string ⟨(fr).toArray⟩, .int .i64 tz, .int .i64 st, .int .i64 ti, .bool true, s2, v2] 32) = w1 at *
    go_wp2_with (first | (with_reducible refine ((HST.out _ HS1.out HS2.out).mono ?_); rintro e w' ⟨rfl, hb⟩; replace HK := Lib.hid (HK.out.keep hb); clear k0 k1 k2 k3 k4 k5 k6 kf0 kf1 kf2 kf3 kf4 kf5 kf6; replace HR := Lib.hid (HR.out.keep hb); clear r0 r1 r2 r3 r4 r5 r6 rf0 rf1 rf2 rf3 rf4 rf5 rf6; replace HS1 := Lib.hid (SbsAt.kept HS1.out hb); replace HS2 := Lib.hid (SbsAt.kept HS2.out hb); replace HF1 := Lib.hid (FdsAt.kept HF1.out hb); replace HF2 := Lib.hid (FdsAt.kept HF2.out hb); replace HB := Lib.hid (bch' HB.out hb); clear hb; obtain ⟨k0, k1, k2, k3, k4, k5, k6, kf0, kf1, kf2, kf3, kf4, kf5, kf6⟩ := HK.out.c7; obtain ⟨r0, r1, r2, r3, r4, r5, r6, rf0, rf1, rf2, rf3, rf4, rf5, rf6⟩ := HR.out.c7) | (with_reducible refine ((HSF.out _ HF1.out HF2.out).mono ?_); rintro e w' ⟨rfl, hb⟩; replace HK := Lib.hid (HK.out.keep hb); clear k0 k1 k2 k3 k4 k5 k6 kf0 kf1 kf2 kf3 kf4 kf5 kf6; replace HR := Lib.hid (HR.out.keep hb); clear r0 r1 r2 r3 r4 r5 r6 rf0 rf1 rf2 rf3 rf4 rf5 rf6; replace HS1 := Lib.hid (SbsAt.kept HS1.out hb); replace HS2 := Lib.hid (SbsAt.kept HS2.out hb); replace HF1 := Lib.hid (FdsAt.kept HF1.out hb); replace HF2 := Lib.hid (FdsAt.kept HF2.out hb); replace HB := Lib.hid (bch' HB.out hb); clear hb; obtain ⟨k0, k1, k2, k3, k4, k5, k6, kf0, kf1, kf2, kf3, kf4, kf5, kf6⟩ := HK.out.c7; obtain ⟨r0, r1, r2, r3, r4, r5, r6, rf0, rf1, rf2, rf3, rf4, rf5, rf6⟩ := HR.out.c7))
    go_ret
    exact ⟨rfl, HB.out⟩
end Go.Proofs.YtkjelfmgnkkijaaGreatDoor
namespace Lum
open Go Go.RowKit Go.Shelf
open Go.Lib (decDigits itoa)
/-- The error of a glide's going on. -/
def goE (fr : Txt) (tz st ti xt xo xi : Int) : Int := if glE fr tz st ti ≠ 0 then glE fr tz st ti else if ¬ (((0 ≤ xt ∧ xt ≤ 10000000) ∧ (0 ≤ xi ∧ xi ≤ 10000000)) ∧ (0 ≤ xo ∧ xo ≤ 65535)) then 2 else 0
theorem goE_gl {fr : Txt} {tz st ti xt xo xi : Int} (h : ¬ glE fr tz st ti = 0) : goE fr tz st ti xt xo xi = glE fr tz st ti := by unfold goE; rw [if_pos h]
theorem goE_out {fr : Txt} {tz st ti xt xo xi : Int} (h : glE fr tz st ti = 0) (h2 : ¬ (((0 ≤ xt ∧ xt ≤ 10000000) ∧ (0 ≤ xi ∧ xi ≤ 10000000)) ∧ (0 ≤ xo ∧ xo ≤ 65535))) : goE fr tz st ti xt xo xi = 2 := by unfold goE; rw [if_neg (by simpa using h), if_pos h2]
theorem goE_in {fr : Txt} {tz st ti xt xo xi : Int} (h : glE fr tz st ti = 0) (h2 : ((0 ≤ xt ∧ xt ≤ 10000000) ∧ (0 ≤ xi ∧ xi ≤ 10000000)) ∧ (0 ≤ xo ∧ xo ≤ 65535)) : goE fr tz st ti xt xo xi = 0 := by unfold goE; rw [if_neg (by simpa using h), if_neg (fun g => g h2)]
theorem goE_zero {fr : Txt} {tz st ti xt xo xi : Int} (h : goE fr tz st ti xt xo xi = 0) : glE fr tz st ti = 0 ∧ ((0 ≤ xt ∧ xt ≤ 10000000) ∧ (0 ≤ xi ∧ xi ≤ 10000000)) ∧ (0 ≤ xo ∧ xo ≤ 65535) := by
  by_cases h1 : glE fr tz st ti = 0
  · by_cases h2 : ((0 ≤ xt ∧ xt ≤ 10000000) ∧ (0 ≤ xi ∧ xi ≤ 10000000)) ∧ (0 ≤ xo ∧ xo ≤ 65535)
    · exact ⟨h1, h2⟩
    · rw [goE_out h1 h2] at h; cases h
  · rw [goE_gl h1] at h; exact absurd h h1
end Lum
namespace Go.Proofs.YtkjelfmgnkkijaaGreatDoor
open Go.RowKit Go.Shelf Lum
open Go.Lib (decDigits itoa)
attribute [local go_sem] bs_get bs_extract_end bs_extract_from bs_extract bs_append

set_option maxRecDepth 100000 in
set_option maxHeartbeats 4000000 in
theorem own_ggo_bad (fr : Txt) (tz st ti xt xo xi : Int) (w : World) (hx : fr.length ≤ 1000) (hz : ¬ goE fr tz st ti xt xo xi = 0) (env : Env w) :
    Calls Tryz.prog 81 #[.agg #[.string ⟨(fr).toArray⟩, .int .i64 tz, .int .i64 st, .int .i64 ti], .int .i64 xt, .int .i64 xo, .int .i64 xi] w fun e w' => e = .returned (.tuple #[.agg #[.string ⟨#[]⟩, .int .i64 0, .int .i64 0, .int .i64 0], .int .i64 (goE fr tz st ti xt xo xi)]) ∧ Below w.heap.size w w' := by
  have ENV := Lib.hid env; clear env
  have hal := ((Below.refl w.heap.size w).alloc (Nat.le_refl _) (.cells #[.string ⟨(fr).toArray⟩, .int .i64 tz, .int .i64 st, .int .i64 ti] 24)).alloc (by simp) (.cells #[.string ⟨#[]⟩, .int .i64 0, .int .i64 0, .int .i64 0] 24)
  have HB := Lib.hid hal
  have HK := Lib.hid ((Blk.new w 24 #[.string ⟨(fr).toArray⟩, .int .i64 tz, .int .i64 st, .int .i64 ti]).alloc (.cells #[.string ⟨#[]⟩, .int .i64 0, .int .i64 0, .int .i64 0] 24))
  have hR := Blk.new (w.alloc (.cells #[.string ⟨(fr).toArray⟩, .int .i64 tz, .int .i64 st, .int .i64 ti] 24)) 24 #[.string ⟨#[]⟩, .int .i64 0, .int .i64 0, .int .i64 0]
  rw [World.size_alloc] at hR
  have HR := Lib.hid hR; clear hR
  obtain ⟨k0, k1, k2, k3, kf0, kf1, kf2, kf3⟩ := HK.out.c4
  obtain ⟨r0, r1, r2, r3, rf0, rf1, rf2, rf3⟩ := HR.out.c4
  clear hal
  have hc := fun W (e : Env W) => own_gcheck fr tz st ti W hx e
  by_cases h0 : glE fr tz st ti = 0
  · rw [h0] at hc
    have hi1 : ∀ W : World, Calls Tryz.prog 137 #[.int .i64 65535, .slice (some ⟨W.heap.size, 0, none⟩) 1 1] (W.alloc (.cells #[.int .i64 xo] 3)) fun e w' => e = .returned (.bool (inAll1 65535 xo)) ∧ Below W.heap.size W w' := fun W => (own_gwithin1 65535 xo _ _ _ (by rw [World.cell?_alloc_new]; rfl)).mono fun e w2 h => ⟨h.1, by rw [← h.2]; exact (Below.refl _ _).alloc (Nat.le_refl _) _⟩
    have hi2 : ∀ W : World, Calls Tryz.prog 137 #[.int .i64 10000000, .slice (some ⟨W.heap.size, 0, none⟩) 2 2] (W.alloc (.cells #[.int .i64 xt, .int .i64 xi] 3)) fun e w' => e = .returned (.bool (inAll2 10000000 xt xi)) ∧ Below W.heap.size W w' := fun W => (own_gwithin2 10000000 xt xi _ _ _ (by rw [World.cell?_alloc_new]; rfl) (by rw [World.cell?_alloc_new]; rfl)).mono fun e w2 h => ⟨h.1, by rw [← h.2]; exact (Below.refl _ _).alloc (Nat.le_refl _) _⟩
    rw [show inAll1 65535 xo = decide (0 ≤ xo ∧ xo ≤ 65535) from rfl] at hi1
    rw [show inAll2 10000000 xt xi = decide ((0 ≤ xt ∧ xt ≤ 10000000) ∧ (0 ≤ xi ∧ xi ≤ 10000000)) from rfl] at hi2
    by_cases h1 : (0 ≤ xt ∧ xt ≤ 10000000) ∧ (0 ≤ xi ∧ xi ≤ 10000000)
    · rw [decide_eq_true h1] at hi2
      by_cases h2 : 0 ≤ xo ∧ xo ≤ 65535
      · exact absurd (goE_in h0 ⟨h1, h2⟩) hz
      · rw [decide_eq_false h2] at hi1
        rw [goE_out h0 (fun h => h2 h.2)]
        clear h0 h1 h2 hz
        have HC := Lib.hid hc; clear hc
        have HI1 := Lib.hid hi1; clear hi1
        have HI2 := Lib.hid hi2; clear hi2
        go_enter Tryz.func81, Tryz.ntmps81
        go_wp2_with (first | (with_reducible refine ((HC.out _ (ENV.out.below HB.out)).mono ?_); rintro e w' ⟨rfl, hb⟩; replace HK := Lib.hid (HK.out.keep hb); clear k0 k1 k2 k3 kf0 kf1 kf2 kf3; replace HR := Lib.hid (HR.out.keep hb); clear r0 r1 r2 r3 rf0 rf1 rf2 rf3; replace HB := Lib.hid (bch' HB.out hb); clear hb; obtain ⟨k0, k1, k2, k3, kf0, kf1, kf2, kf3⟩ := HK.out.c4; obtain ⟨r0, r1, r2, r3, rf0, rf1, rf2, rf3⟩ := HR.out.c4) | (with_reducible refine ((HI1.out _).mono ?_); rintro e w' ⟨rfl, hb⟩; replace HK := Lib.hid (HK.out.keep hb); clear k0 k1 k2 k3 kf0 kf1 kf2 kf3; replace HR := Lib.hid (HR.out.keep hb); clear r0 r1 r2 r3 rf0 rf1 rf2 rf3; replace HB := Lib.hid (bch' HB.out hb); clear hb; obtain ⟨k0, k1, k2, k3, kf0, kf1, kf2, kf3⟩ := HK.out.c4; obtain ⟨r0, r1, r2, r3, rf0, rf1, rf2, rf3⟩ := HR.out.c4) | (with_reducible refine ((HI2.out _).mono ?_); rintro e w' ⟨rfl, hb⟩; replace HK := Lib.hid (HK.out.keep hb); clear k0 k1 k2 k3 kf0 kf1 kf2 kf3; replace HR := Lib.hid (HR.out.keep hb); clear r0 r1 r2 r3 rf0 rf1 rf2 rf3; replace HB := Lib.hid (bch' HB.out hb); clear hb; obtain ⟨k0, k1, k2, k3, kf0, kf1, kf2, kf3⟩ := HK.out.c4; obtain ⟨r0, r1, r2, r3, rf0, rf1, rf2, rf3⟩ := HR.out.c4))
        refine bodyPost_ret_by (v := .tuple #[.agg #[.string ⟨#[]⟩, .int .i64 0, .int .i64 0, .int .i64 0], .int .i64 2]) (by simp [results, Tryz.f81, go_sem, r0, r1, r2, r3, rf0, rf1, rf2, rf3]) rfl ⟨rfl, ?_⟩
        exact ((((HB.out.setCell (Nat.le_succ _) _).setCell (Nat.le_succ _) _).setCell (Nat.le_succ _) _).setCell (Nat.le_succ _) _)
    · rw [decide_eq_false h1] at hi2
      rw [goE_out h0 (fun h => h1 h.1)]
      clear h0 h1 hz
      have HC := Lib.hid hc; clear hc
      have HI1 := Lib.hid hi1; clear hi1
      have HI2 := Lib.hid hi2; clear hi2
      go_enter Tryz.func81, Tryz.ntmps81
      go_wp2_with (first | (with_reducible refine ((HC.out _ (ENV.out.below HB.out)).mono ?_); rintro e w' ⟨rfl, hb⟩; replace HK := Lib.hid (HK.out.keep hb); clear k0 k1 k2 k3 kf0 kf1 kf2 kf3; replace HR := Lib.hid (HR.out.keep hb); clear r0 r1 r2 r3 rf0 rf1 rf2 rf3; replace HB := Lib.hid (bch' HB.out hb); clear hb; obtain ⟨k0, k1, k2, k3, kf0, kf1, kf2, kf3⟩ := HK.out.c4; obtain ⟨r0, r1, r2, r3, rf0, rf1, rf2, rf3⟩ := HR.out.c4) | (with_reducible refine ((HI1.out _).mono ?_); rintro e w' ⟨rfl, hb⟩; replace HK := Lib.hid (HK.out.keep hb); clear k0 k1 k2 k3 kf0 kf1 kf2 kf3; replace HR := Lib.hid (HR.out.keep hb); clear r0 r1 r2 r3 rf0 rf1 rf2 rf3; replace HB := Lib.hid (bch' HB.out hb); clear hb; obtain ⟨k0, k1, k2, k3, kf0, kf1, kf2, kf3⟩ := HK.out.c4; obtain ⟨r0, r1, r2, r3, rf0, rf1, rf2, rf3⟩ := HR.out.c4) | (with_reducible refine ((HI2.out _).mono ?_); rintro e w' ⟨rfl, hb⟩; replace HK := Lib.hid (HK.out.keep hb); clear k0 k1 k2 k3 kf0 kf1 kf2 kf3; replace HR := Lib.hid (HR.out.keep hb); clear r0 r1 r2 r3 rf0 rf1 rf2 rf3; replace HB := Lib.hid (bch' HB.out hb); clear hb; obtain ⟨k0, k1, k2, k3, kf0, kf1, kf2, kf3⟩ := HK.out.c4; obtain ⟨r0, r1, r2, r3, rf0, rf1, rf2, rf3⟩ := HR.out.c4))
      refine bodyPost_ret_by (v := .tuple #[.agg #[.string ⟨#[]⟩, .int .i64 0, .int .i64 0, .int .i64 0], .int .i64 2]) (by simp [results, Tryz.f81, go_sem, r0, r1, r2, r3, rf0, rf1, rf2, rf3]) rfl ⟨rfl, ?_⟩
      exact ((((HB.out.setCell (Nat.le_succ _) _).setCell (Nat.le_succ _) _).setCell (Nat.le_succ _) _).setCell (Nat.le_succ _) _)
  · rw [goE_gl h0]
    have hne : ((glE fr tz st ti : Int) != 0) = true := by simpa using h0
    clear h0 hz
    generalize glE fr tz st ti = m at *
    have HC := Lib.hid hc; clear hc
    go_enter Tryz.func81, Tryz.ntmps81
    go_wp2_with (first | (with_reducible refine ((HC.out _ (ENV.out.below HB.out)).mono ?_); rintro e w' ⟨rfl, hb⟩; replace HK := Lib.hid (HK.out.keep hb); clear k0 k1 k2 k3 kf0 kf1 kf2 kf3; replace HR := Lib.hid (HR.out.keep hb); clear r0 r1 r2 r3 rf0 rf1 rf2 rf3; replace HB := Lib.hid (bch' HB.out hb); clear hb; obtain ⟨k0, k1, k2, k3, kf0, kf1, kf2, kf3⟩ := HK.out.c4; obtain ⟨r0, r1, r2, r3, rf0, rf1, rf2, rf3⟩ := HR.out.c4))
    refine bodyPost_ret_by (v := .tuple #[.agg #[.string ⟨#[]⟩, .int .i64 0, .int .i64 0, .int .i64 0], .int .i64 m]) (by simp [results, Tryz.f81, go_sem, r0, r1, r2, r3, rf0, rf1, rf2, rf3]) rfl ⟨rfl, ?_⟩
    exact ((((HB.out.setCell (Nat.le_succ _) _).setCell (Nat.le_succ _) _).setCell (Nat.le_succ _) _).setCell (Nat.le_succ _) _)

set_option maxRecDepth 100000 in
set_option maxHeartbeats 4000000 in
theorem own_ggo_ok (fr : Txt) (tz st ti xt xo xi : Int) (w : World) (hx : fr.length ≤ 1000) (hz : goE fr tz st ti xt xo xi = 0) (env : Env w) :
    Calls Tryz.prog 81 #[.agg #[.string ⟨(fr).toArray⟩, .int .i64 tz, .int .i64 st, .int .i64 ti], .int .i64 xt, .int .i64 xo, .int .i64 xi] w fun e w' => e = .returned (.tuple #[.agg #[.string ⟨(showR (glV (valR fr) tz st ti xt)).toArray⟩, .int .i64 xo, .int .i64 xt, .int .i64 xi], .int .i64 0]) ∧ Below w.heap.size w w' := by
  have ENV := Lib.hid env; clear env
  have hal := ((Below.refl w.heap.size w).alloc (Nat.le_refl _) (.cells #[.string ⟨(fr).toArray⟩, .int .i64 tz, .int .i64 st, .int .i64 ti] 24)).alloc (by simp) (.cells #[.string ⟨#[]⟩, .int .i64 0, .int .i64 0, .int .i64 0] 24)
  have HB := Lib.hid hal
  have HK := Lib.hid ((Blk.new w 24 #[.string ⟨(fr).toArray⟩, .int .i64 tz, .int .i64 st, .int .i64 ti]).alloc (.cells #[.string ⟨#[]⟩, .int .i64 0, .int .i64 0, .int .i64 0] 24))
  have hR := Blk.new (w.alloc (.cells #[.string ⟨(fr).toArray⟩, .int .i64 tz, .int .i64 st, .int .i64 ti] 24)) 24 #[.string ⟨#[]⟩, .int .i64 0, .int .i64 0, .int .i64 0]
  rw [World.size_alloc] at hR
  have HR := Lib.hid hR; clear hR
  obtain ⟨k0, k1, k2, k3, kf0, kf1, kf2, kf3⟩ := HK.out.c4
  obtain ⟨r0, r1, r2, r3, rf0, rf1, rf2, rf3⟩ := HR.out.c4
  clear hal
  have hc := fun W (e : Env W) => own_gcheck fr tz st ti W hx e
  obtain ⟨h0, h1, h2⟩ := goE_zero hz
  rw [h0] at hc
  have hi1 : ∀ W : World, Calls Tryz.prog 137 #[.int .i64 65535, .slice (some ⟨W.heap.size, 0, none⟩) 1 1] (W.alloc (.cells #[.int .i64 xo] 3)) fun e w' => e = .returned (.bool (inAll1 65535 xo)) ∧ Below W.heap.size W w' := fun W => (own_gwithin1 65535 xo _ _ _ (by rw [World.cell?_alloc_new]; rfl)).mono fun e w2 h => ⟨h.1, by rw [← h.2]; exact (Below.refl _ _).alloc (Nat.le_refl _) _⟩
  have hi2 : ∀ W : World, Calls Tryz.prog 137 #[.int .i64 10000000, .slice (some ⟨W.heap.size, 0, none⟩) 2 2] (W.alloc (.cells #[.int .i64 xt, .int .i64 xi] 3)) fun e w' => e = .returned (.bool (inAll2 10000000 xt xi)) ∧ Below W.heap.size W w' := fun W => (own_gwithin2 10000000 xt xi _ _ _ (by rw [World.cell?_alloc_new]; rfl) (by rw [World.cell?_alloc_new]; rfl)).mono fun e w2 h => ⟨h.1, by rw [← h.2]; exact (Below.refl _ _).alloc (Nat.le_refl _) _⟩
  rw [show inAll1 65535 xo = decide (0 ≤ xo ∧ xo ≤ 65535) from rfl] at hi1
  rw [show inAll2 10000000 xt xi = decide ((0 ≤ xt ∧ xt ≤ 10000000) ∧ (0 ≤ xi ∧ xi ≤ 10000000)) from rfl] at hi2
  rw [decide_eq_true h1] at hi2
  rw [decide_eq_true h2] at hi1
  have ha := fun W (e : Env W) => own_gat fr tz st ti xt W h0 hx e
  clear h0 h1 h2 hz
  generalize showR (glV (valR fr) tz st ti xt) = tr at *
  have HC := Lib.hid hc; clear hc
  have HI1 := Lib.hid hi1; clear hi1
  have HI2 := Lib.hid hi2; clear hi2
  have HA := Lib.hid ha; clear ha
  go_enter Tryz.func81, Tryz.ntmps81
  go_wp2_with (first | (with_reducible refine ((HC.out _ (ENV.out.below HB.out)).mono ?_); rintro e w' ⟨rfl, hb⟩; replace HK := Lib.hid (HK.out.keep hb); clear k0 k1 k2 k3 kf0 kf1 kf2 kf3; replace HR := Lib.hid (HR.out.keep hb); clear r0 r1 r2 r3 rf0 rf1 rf2 rf3; replace HB := Lib.hid (bch' HB.out hb); clear hb; obtain ⟨k0, k1, k2, k3, kf0, kf1, kf2, kf3⟩ := HK.out.c4; obtain ⟨r0, r1, r2, r3, rf0, rf1, rf2, rf3⟩ := HR.out.c4) | (with_reducible refine ((HI1.out _).mono ?_); rintro e w' ⟨rfl, hb⟩; replace HK := Lib.hid (HK.out.keep hb); clear k0 k1 k2 k3 kf0 kf1 kf2 kf3; replace HR := Lib.hid (HR.out.keep hb); clear r0 r1 r2 r3 rf0 rf1 rf2 rf3; replace HB := Lib.hid (bch' HB.out hb); clear hb; obtain ⟨k0, k1, k2, k3, kf0, kf1, kf2, kf3⟩ := HK.out.c4; obtain ⟨r0, r1, r2, r3, rf0, rf1, rf2, rf3⟩ := HR.out.c4) | (with_reducible refine ((HI2.out _).mono ?_); rintro e w' ⟨rfl, hb⟩; replace HK := Lib.hid (HK.out.keep hb); clear k0 k1 k2 k3 kf0 kf1 kf2 kf3; replace HR := Lib.hid (HR.out.keep hb); clear r0 r1 r2 r3 rf0 rf1 rf2 rf3; replace HB := Lib.hid (bch' HB.out hb); clear hb; obtain ⟨k0, k1, k2, k3, kf0, kf1, kf2, kf3⟩ := HK.out.c4; obtain ⟨r0, r1, r2, r3, rf0, rf1, rf2, rf3⟩ := HR.out.c4) | (with_reducible refine ((HA.out _ (ENV.out.below HB.out)).mono ?_); rintro e w' ⟨rfl, hb⟩; replace HK := Lib.hid (HK.out.keep hb); clear k0 k1 k2 k3 kf0 kf1 kf2 kf3; replace HR := Lib.hid (HR.out.keep hb); clear r0 r1 r2 r3 rf0 rf1 rf2 rf3; replace HB := Lib.hid (bch' HB.out hb); clear hb; obtain ⟨k0, k1, k2, k3, kf0, kf1, kf2, kf3⟩ := HK.out.c4; obtain ⟨r0, r1, r2, r3, rf0, rf1, rf2, rf3⟩ := HR.out.c4))
  refine bodyPost_ret_by (v := .tuple #[.agg #[.string ⟨(tr).toArray⟩, .int .i64 xo, .int .i64 xt, .int .i64 xi], .int .i64 0]) (by simp [results, Tryz.f81, go_sem, r0, r1, r2, r3, rf0, rf1, rf2, rf3]) rfl ⟨rfl, ?_⟩
  exact ((((HB.out.setCell (Nat.le_succ _) _).setCell (Nat.le_succ _) _).setCell (Nat.le_succ _) _).setCell (Nat.le_succ _) _)

set_option maxRecDepth 100000 in
set_option maxHeartbeats 4000000 in
theorem r3_gone (fr : Txt) (tz st ti xt xo xi : Int) (w : World) (hx : fr.length ≤ 1000) (h0 : glE fr tz st ti = 0) :
    Calls Tryz.prog 139 #[.agg #[.string ⟨(fr).toArray⟩, .int .i64 tz, .int .i64 st, .int .i64 ti], .int .i64 xt, .int .i64 xo, .int .i64 xi] w fun e w' => e = .returned (.agg #[.string ⟨(showR (glV (valR fr) tz st ti xt)).toArray⟩, .int .i64 xo, .int .i64 xt, .int .i64 xi]) ∧ Below w.heap.size w w' := by
  have hal := ((Below.refl w.heap.size w).alloc (Nat.le_refl _) (.cells #[.string ⟨(fr).toArray⟩, .int .i64 tz, .int .i64 st, .int .i64 ti] 24)).alloc (by simp) (.cells #[.string ⟨#[]⟩, .int .i64 0, .int .i64 0, .int .i64 0] 24)
  have HB := Lib.hid hal
  have HK := Lib.hid ((Blk.new w 24 #[.string ⟨(fr).toArray⟩, .int .i64 tz, .int .i64 st, .int .i64 ti]).alloc (.cells #[.string ⟨#[]⟩, .int .i64 0, .int .i64 0, .int .i64 0] 24))
  have hR := Blk.new (w.alloc (.cells #[.string ⟨(fr).toArray⟩, .int .i64 tz, .int .i64 st, .int .i64 ti] 24)) 24 #[.string ⟨#[]⟩, .int .i64 0, .int .i64 0, .int .i64 0]
  rw [World.size_alloc] at hR
  have HR := Lib.hid hR; clear hR
  obtain ⟨k0, k1, k2, k3, kf0, kf1, kf2, kf3⟩ := HK.out.c4
  obtain ⟨r0, r1, r2, r3, rf0, rf1, rf2, rf3⟩ := HR.out.c4
  clear hal
  have hof : ∀ W, Calls Tryz.prog 152 #[.agg #[.string ⟨(fr).toArray⟩, .int .i64 tz, .int .i64 st, .int .i64 ti], .int .i64 xt] W fun e w' => e = .returned (.string ⟨(showR (glV (valR fr) tz st ti xt)).toArray⟩) ∧ Below W.heap.size W w' := by
    intro W
    obtain ⟨q, rfl, e2, hq, h2, h3, h4⟩ := glq h0
    rw [e2]
    exact r3_of q _ _ _ xt W (by omega) h2 h3 h4
  clear h0
  generalize showR (glV (valR fr) tz st ti xt) = tr at *
  have HOF := Lib.hid hof; clear hof
  go_enter Tryz.func139, Tryz.ntmps139
  go_wp2_with (first | (with_reducible refine ((HOF.out _).mono ?_); rintro e w' ⟨rfl, hb⟩; replace HK := Lib.hid (HK.out.keep hb); clear k0 k1 k2 k3 kf0 kf1 kf2 kf3; replace HR := Lib.hid (HR.out.keep hb); clear r0 r1 r2 r3 rf0 rf1 rf2 rf3; replace HB := Lib.hid (bch' HB.out hb); clear hb; obtain ⟨k0, k1, k2, k3, kf0, kf1, kf2, kf3⟩ := HK.out.c4; obtain ⟨r0, r1, r2, r3, rf0, rf1, rf2, rf3⟩ := HR.out.c4))
  refine bodyPost_ret_by (v := .agg #[.string ⟨(tr).toArray⟩, .int .i64 xo, .int .i64 xt, .int .i64 xi]) (by simp [results, Tryz.f139, go_sem, r0, r1, r2, r3, rf0, rf1, rf2, rf3]) rfl ⟨rfl, ?_⟩
  exact ((((HB.out.setCell (Nat.le_succ _) _).setCell (Nat.le_succ _) _).setCell (Nat.le_succ _) _).setCell (Nat.le_succ _) _)

set_option maxRecDepth 100000 in
set_option maxHeartbeats 4000000 in
theorem r3_go_bad (fr : Txt) (tz st ti xt xo xi : Int) (w : World) (hx : fr.length ≤ 1000) (hz : ¬ goE fr tz st ti xt xo xi = 0) :
    Calls Tryz.prog 82 #[.agg #[.string ⟨(fr).toArray⟩, .int .i64 tz, .int .i64 st, .int .i64 ti], .int .i64 xt, .int .i64 xo, .int .i64 xi] w fun e w' => e = .returned (.tuple #[.agg #[.string ⟨#[]⟩, .int .i64 0, .int .i64 0, .int .i64 0], .int .i64 (goE fr tz st ti xt xo xi)]) ∧ Below w.heap.size w w' := by
  have hal := ((Below.refl w.heap.size w).alloc (Nat.le_refl _) (.cells #[.string ⟨(fr).toArray⟩, .int .i64 tz, .int .i64 st, .int .i64 ti] 24)).alloc (by simp) (.cells #[.string ⟨#[]⟩, .int .i64 0, .int .i64 0, .int .i64 0] 24)
  have HB := Lib.hid hal
  have HK := Lib.hid ((Blk.new w 24 #[.string ⟨(fr).toArray⟩, .int .i64 tz, .int .i64 st, .int .i64 ti]).alloc (.cells #[.string ⟨#[]⟩, .int .i64 0, .int .i64 0, .int .i64 0] 24))
  have hR := Blk.new (w.alloc (.cells #[.string ⟨(fr).toArray⟩, .int .i64 tz, .int .i64 st, .int .i64 ti] 24)) 24 #[.string ⟨#[]⟩, .int .i64 0, .int .i64 0, .int .i64 0]
  rw [World.size_alloc] at hR
  have HR := Lib.hid hR; clear hR
  obtain ⟨k0, k1, k2, k3, kf0, kf1, kf2, kf3⟩ := HK.out.c4
  obtain ⟨r0, r1, r2, r3, rf0, rf1, rf2, rf3⟩ := HR.out.c4
  clear hal
  have hc := fun W => r3_check fr tz st ti W hx
  have t1 := fun W => r3_time xt W
  have t2 := fun W => r3_whole xo W
  have t3 := fun W => r3_time xi W
  by_cases h0 : glE fr tz st ti = 0
  · rw [h0] at hc
    by_cases h1 : 0 ≤ xt ∧ xt ≤ 10000000
    · rw [decide_eq_true h1] at t1
      by_cases h2 : 0 ≤ xo ∧ xo ≤ 65535
      · rw [decide_eq_true h2] at t2
        by_cases h3 : 0 ≤ xi ∧ xi ≤ 10000000
        · exact absurd (goE_in h0 ⟨⟨h1, h3⟩, h2⟩) hz
        · rw [decide_eq_false h3] at t3
          rw [goE_out h0 (fun h => h3 h.1.2)]
          clear h1 h2 h3
          clear h0 hz
          have HC := Lib.hid hc; clear hc
          have T1 := Lib.hid t1; clear t1
          have T2 := Lib.hid t2; clear t2
          have T3 := Lib.hid t3; clear t3
          go_enter Tryz.func82, Tryz.ntmps82
          go_wp2_with (first | (with_reducible refine ((HC.out _).mono ?_); rintro e w' ⟨rfl, hb⟩; replace HK := Lib.hid (HK.out.keep hb); clear k0 k1 k2 k3 kf0 kf1 kf2 kf3; replace HR := Lib.hid (HR.out.keep hb); clear r0 r1 r2 r3 rf0 rf1 rf2 rf3; replace HB := Lib.hid (bch' HB.out hb); clear hb; obtain ⟨k0, k1, k2, k3, kf0, kf1, kf2, kf3⟩ := HK.out.c4; obtain ⟨r0, r1, r2, r3, rf0, rf1, rf2, rf3⟩ := HR.out.c4) | (with_reducible refine ((T1.out _).mono ?_); rintro e w' ⟨rfl, rfl⟩) | (with_reducible refine ((T2.out _).mono ?_); rintro e w' ⟨rfl, rfl⟩) | (with_reducible refine ((T3.out _).mono ?_); rintro e w' ⟨rfl, rfl⟩))
          refine bodyPost_ret_by (v := .tuple #[.agg #[.string ⟨#[]⟩, .int .i64 0, .int .i64 0, .int .i64 0], .int .i64 2]) (by simp [results, Tryz.f82, go_sem, r0, r1, r2, r3, rf0, rf1, rf2, rf3]) rfl ⟨rfl, ?_⟩
          exact ((((HB.out.setCell (Nat.le_succ _) _).setCell (Nat.le_succ _) _).setCell (Nat.le_succ _) _).setCell (Nat.le_succ _) _)
      · rw [decide_eq_false h2] at t2
        rw [goE_out h0 (fun h => h2 h.2)]
        clear h1 h2
        clear h0 hz
        have HC := Lib.hid hc; clear hc
        have T1 := Lib.hid t1; clear t1
        have T2 := Lib.hid t2; clear t2
        have T3 := Lib.hid t3; clear t3
        go_enter Tryz.func82, Tryz.ntmps82
        go_wp2_with (first | (with_reducible refine ((HC.out _).mono ?_); rintro e w' ⟨rfl, hb⟩; replace HK := Lib.hid (HK.out.keep hb); clear k0 k1 k2 k3 kf0 kf1 kf2 kf3; replace HR := Lib.hid (HR.out.keep hb); clear r0 r1 r2 r3 rf0 rf1 rf2 rf3; replace HB := Lib.hid (bch' HB.out hb); clear hb; obtain ⟨k0, k1, k2, k3, kf0, kf1, kf2, kf3⟩ := HK.out.c4; obtain ⟨r0, r1, r2, r3, rf0, rf1, rf2, rf3⟩ := HR.out.c4) | (with_reducible refine ((T1.out _).mono ?_); rintro e w' ⟨rfl, rfl⟩) | (with_reducible refine ((T2.out _).mono ?_); rintro e w' ⟨rfl, rfl⟩) | (with_reducible refine ((T3.out _).mono ?_); rintro e w' ⟨rfl, rfl⟩))
        refine bodyPost_ret_by (v := .tuple #[.agg #[.string ⟨#[]⟩, .int .i64 0, .int .i64 0, .int .i64 0], .int .i64 2]) (by simp [results, Tryz.f82, go_sem, r0, r1, r2, r3, rf0, rf1, rf2, rf3]) rfl ⟨rfl, ?_⟩
        exact ((((HB.out.setCell (Nat.le_succ _) _).setCell (Nat.le_succ _) _).setCell (Nat.le_succ _) _).setCell (Nat.le_succ _) _)
    · rw [decide_eq_false h1] at t1
      rw [goE_out h0 (fun h => h1 h.1.1)]
      clear h1
      clear h0 hz
      have HC := Lib.hid hc; clear hc
      have T1 := Lib.hid t1; clear t1
      have T2 := Lib.hid t2; clear t2
      have T3 := Lib.hid t3; clear t3
      go_enter Tryz.func82, Tryz.ntmps82
      go_wp2_with (first | (with_reducible refine ((HC.out _).mono ?_); rintro e w' ⟨rfl, hb⟩; replace HK := Lib.hid (HK.out.keep hb); clear k0 k1 k2 k3 kf0 kf1 kf2 kf3; replace HR := Lib.hid (HR.out.keep hb); clear r0 r1 r2 r3 rf0 rf1 rf2 rf3; replace HB := Lib.hid (bch' HB.out hb); clear hb; obtain ⟨k0, k1, k2, k3, kf0, kf1, kf2, kf3⟩ := HK.out.c4; obtain ⟨r0, r1, r2, r3, rf0, rf1, rf2, rf3⟩ := HR.out.c4) | (with_reducible refine ((T1.out _).mono ?_); rintro e w' ⟨rfl, rfl⟩) | (with_reducible refine ((T2.out _).mono ?_); rintro e w' ⟨rfl, rfl⟩) | (with_reducible refine ((T3.out _).mono ?_); rintro e w' ⟨rfl, rfl⟩))
      refine bodyPost_ret_by (v := .tuple #[.agg #[.string ⟨#[]⟩, .int .i64 0, .int .i64 0, .int .i64 0], .int .i64 2]) (by simp [results, Tryz.f82, go_sem, r0, r1, r2, r3, rf0, rf1, rf2, rf3]) rfl ⟨rfl, ?_⟩
      exact ((((HB.out.setCell (Nat.le_succ _) _).setCell (Nat.le_succ _) _).setCell (Nat.le_succ _) _).setCell (Nat.le_succ _) _)
  · rw [goE_gl h0]
    have hne : ((glE fr tz st ti : Int) != 0) = true := by simpa using h0
    clear h0 hz
    generalize glE fr tz st ti = m at *
    have HC := Lib.hid hc; clear hc
    go_enter Tryz.func82, Tryz.ntmps82
    go_wp2_with (first | (with_reducible refine ((HC.out _).mono ?_); rintro e w' ⟨rfl, hb⟩; replace HK := Lib.hid (HK.out.keep hb); clear k0 k1 k2 k3 kf0 kf1 kf2 kf3; replace HR := Lib.hid (HR.out.keep hb); clear r0 r1 r2 r3 rf0 rf1 rf2 rf3; replace HB := Lib.hid (bch' HB.out hb); clear hb; obtain ⟨k0, k1, k2, k3, kf0, kf1, kf2, kf3⟩ := HK.out.c4; obtain ⟨r0, r1, r2, r3, rf0, rf1, rf2, rf3⟩ := HR.out.c4))
    refine bodyPost_ret_by (v := .tuple #[.agg #[.string ⟨#[]⟩, .int .i64 0, .int .i64 0, .int .i64 0], .int .i64 m]) (by simp [results, Tryz.f82, go_sem, r0, r1, r2, r3, rf0, rf1, rf2, rf3]) rfl ⟨rfl, ?_⟩
    exact ((((HB.out.setCell (Nat.le_succ _) _).setCell (Nat.le_succ _) _).setCell (Nat.le_succ _) _).setCell (Nat.le_succ _) _)

set_option maxRecDepth 100000 in
set_option maxHeartbeats 4000000 in
theorem r3_go_ok (fr : Txt) (tz st ti xt xo xi : Int) (w : World) (hx : fr.length ≤ 1000) (hz : goE fr tz st ti xt xo xi = 0) :
    Calls Tryz.prog 82 #[.agg #[.string ⟨(fr).toArray⟩, .int .i64 tz, .int .i64 st, .int .i64 ti], .int .i64 xt, .int .i64 xo, .int .i64 xi] w fun e w' => e = .returned (.tuple #[.agg #[.string ⟨(showR (glV (valR fr) tz st ti xt)).toArray⟩, .int .i64 xo, .int .i64 xt, .int .i64 xi], .int .i64 0]) ∧ Below w.heap.size w w' := by
  have hal := ((Below.refl w.heap.size w).alloc (Nat.le_refl _) (.cells #[.string ⟨(fr).toArray⟩, .int .i64 tz, .int .i64 st, .int .i64 ti] 24)).alloc (by simp) (.cells #[.string ⟨#[]⟩, .int .i64 0, .int .i64 0, .int .i64 0] 24)
  have HB := Lib.hid hal
  have HK := Lib.hid ((Blk.new w 24 #[.string ⟨(fr).toArray⟩, .int .i64 tz, .int .i64 st, .int .i64 ti]).alloc (.cells #[.string ⟨#[]⟩, .int .i64 0, .int .i64 0, .int .i64 0] 24))
  have hR := Blk.new (w.alloc (.cells #[.string ⟨(fr).toArray⟩, .int .i64 tz, .int .i64 st, .int .i64 ti] 24)) 24 #[.string ⟨#[]⟩, .int .i64 0, .int .i64 0, .int .i64 0]
  rw [World.size_alloc] at hR
  have HR := Lib.hid hR; clear hR
  obtain ⟨k0, k1, k2, k3, kf0, kf1, kf2, kf3⟩ := HK.out.c4
  obtain ⟨r0, r1, r2, r3, rf0, rf1, rf2, rf3⟩ := HR.out.c4
  clear hal
  have hc := fun W => r3_check fr tz st ti W hx
  have t1 := fun W => r3_time xt W
  have t2 := fun W => r3_whole xo W
  have t3 := fun W => r3_time xi W
  obtain ⟨h0, h1, h2⟩ := goE_zero hz
  rw [h0] at hc
  rw [decide_eq_true h1.1] at t1
  rw [decide_eq_true h2] at t2
  rw [decide_eq_true h1.2] at t3
  have ha := fun W => r3_gone fr tz st ti xt xo xi W hx h0
  clear h0 h1 h2 hz
  generalize showR (glV (valR fr) tz st ti xt) = tr at *
  have HC := Lib.hid hc; clear hc
  have T1 := Lib.hid t1; clear t1
  have T2 := Lib.hid t2; clear t2
  have T3 := Lib.hid t3; clear t3
  have HA := Lib.hid ha; clear ha
  go_enter Tryz.func82, Tryz.ntmps82
  go_wp2_with (first | (with_reducible refine ((HC.out _).mono ?_); rintro e w' ⟨rfl, hb⟩; replace HK := Lib.hid (HK.out.keep hb); clear k0 k1 k2 k3 kf0 kf1 kf2 kf3; replace HR := Lib.hid (HR.out.keep hb); clear r0 r1 r2 r3 rf0 rf1 rf2 rf3; replace HB := Lib.hid (bch' HB.out hb); clear hb; obtain ⟨k0, k1, k2, k3, kf0, kf1, kf2, kf3⟩ := HK.out.c4; obtain ⟨r0, r1, r2, r3, rf0, rf1, rf2, rf3⟩ := HR.out.c4) | (with_reducible refine ((T1.out _).mono ?_); rintro e w' ⟨rfl, rfl⟩) | (with_reducible refine ((T2.out _).mono ?_); rintro e w' ⟨rfl, rfl⟩) | (with_reducible refine ((T3.out _).mono ?_); rintro e w' ⟨rfl, rfl⟩) | (with_reducible refine ((HA.out _).mono ?_); rintro e w' ⟨rfl, hb⟩; replace HK := Lib.hid (HK.out.keep hb); clear k0 k1 k2 k3 kf0 kf1 kf2 kf3; replace HR := Lib.hid (HR.out.keep hb); clear r0 r1 r2 r3 rf0 rf1 rf2 rf3; replace HB := Lib.hid (bch' HB.out hb); clear hb; obtain ⟨k0, k1, k2, k3, kf0, kf1, kf2, kf3⟩ := HK.out.c4; obtain ⟨r0, r1, r2, r3, rf0, rf1, rf2, rf3⟩ := HR.out.c4))
  refine bodyPost_ret_by (v := .tuple #[.agg #[.string ⟨(tr).toArray⟩, .int .i64 xo, .int .i64 xt, .int .i64 xi], .int .i64 0]) (by simp [results, Tryz.f82, go_sem, r0, r1, r2, r3, rf0, rf1, rf2, rf3]) rfl ⟨rfl, ?_⟩
  exact ((((HB.out.setCell (Nat.le_succ _) _).setCell (Nat.le_succ _) _).setCell (Nat.le_succ _) _).setCell (Nat.le_succ _) _)
end Go.Proofs.YtkjelfmgnkkijaaGreatDoor
namespace Lum
open Go Go.RowKit Go.Shelf
open Go.Lib (decDigits itoa)
theorem Blk.far4 {w : World} {g n : Nat} {t : TypeId} {cs : Array Value} (h : Blk w g t cs) (hn : g ≠ n) (b0 b1 b2 b3 : Value) : Blk ((((w.setCell ⟨n, 0, none⟩ b0).setCell ⟨n, 1, none⟩ b1).setCell ⟨n, 2, none⟩ b2).setCell ⟨n, 3, none⟩ b3) g t cs := (((h.far hn b0).far hn b1).far hn b2).far hn b3
theorem Blk.far7 {w : World} {g n : Nat} {t : TypeId} {cs : Array Value} (h : Blk w g t cs) (hn : g ≠ n) (b0 b1 b2 b3 b4 b5 b6 : Value) : Blk (((((((w.setCell ⟨n, 0, none⟩ b0).setCell ⟨n, 1, none⟩ b1).setCell ⟨n, 2, none⟩ b2).setCell ⟨n, 3, none⟩ b3).setCell ⟨n, 4, none⟩ b4).setCell ⟨n, 5, none⟩ b5).setCell ⟨n, 6, none⟩ b6) g t cs := ((h.far4 hn b0 b1 b2 b3).far hn b4 |>.far hn b5).far hn b6
theorem bset4 {B : Nat} {a w : World} (h : Below B a w) {n : Nat} (hn : B ≤ n) (b0 b1 b2 b3 : Value) : Below B a ((((w.setCell ⟨n, 0, none⟩ b0).setCell ⟨n, 1, none⟩ b1).setCell ⟨n, 2, none⟩ b2).setCell ⟨n, 3, none⟩ b3) :=
  (((h.setCell (p := ⟨n, 0, none⟩) hn b0).setCell (p := ⟨n, 1, none⟩) hn b1).setCell (p := ⟨n, 2, none⟩) hn b2).setCell (p := ⟨n, 3, none⟩) hn b3
theorem bset7 {B : Nat} {a w : World} (h : Below B a w) {n : Nat} (hn : B ≤ n) (b0 b1 b2 b3 b4 b5 b6 : Value) : Below B a (((((((w.setCell ⟨n, 0, none⟩ b0).setCell ⟨n, 1, none⟩ b1).setCell ⟨n, 2, none⟩ b2).setCell ⟨n, 3, none⟩ b3).setCell ⟨n, 4, none⟩ b4).setCell ⟨n, 5, none⟩ b5).setCell ⟨n, 6, none⟩ b6) :=
  (((bset4 h hn b0 b1 b2 b3).setCell (p := ⟨n, 4, none⟩) hn b4).setCell (p := ⟨n, 5, none⟩) hn b5).setCell (p := ⟨n, 6, none⟩) hn b6
/-- The error of masters' going on. -/
def mgE (fr : Txt) (tz st ti : Int) (su : List Sb) (fd : List Fdr) (xt xo xi : Int) : Int := if maE fr tz st ti su fd ≠ 0 then maE fr tz st ti su fd else goE fr tz st ti xt xo xi
theorem mgE_ma {fr : Txt} {tz st ti : Int} {su : List Sb} {fd : List Fdr} {xt xo xi : Int} (h : ¬ maE fr tz st ti su fd = 0) : mgE fr tz st ti su fd xt xo xi = maE fr tz st ti su fd := by unfold mgE; rw [if_pos h]
theorem mgE_go {fr : Txt} {tz st ti : Int} {su : List Sb} {fd : List Fdr} {xt xo xi : Int} (h : maE fr tz st ti su fd = 0) : mgE fr tz st ti su fd xt xo xi = goE fr tz st ti xt xo xi := by unfold mgE; rw [if_neg (by simpa using h)]
theorem sbs_nil (W : World) : SbsAt W (.slice none 0 0) [] := ⟨none, 0, rfl, Nat.le_refl _, fun h => absurd rfl h⟩
theorem tab_nil : TabOk [] := ⟨by simp, fun j h => absurd h (Nat.not_lt_zero j), fun j h => absurd h (Nat.not_lt_zero j)⟩
end Lum
namespace Go.Proofs.YtkjelfmgnkkijaaGreatDoor
open Go.RowKit Go.Shelf Lum
open Go.Lib (decDigits itoa)
attribute [local go_sem] bs_get bs_extract_end bs_extract_from bs_extract bs_append

set_option maxRecDepth 100000 in
set_option maxHeartbeats 4000000 in
theorem own_mgo_bad (tz st ti : Int) (bl : Bool) (fr : Txt) (sv fv : Value) (su : List Sb) (fd : List Fdr) (xt xo xi : Int) (w : World) (hs : SbsAt w sv su) (hf : FdsAt w fv fd) (hx : fr.length ≤ 60) (hl : ∀ i, i < fd.length → (fdv fd i).fr.length ≤ 60) (hz : ¬ mgE fr tz st ti su fd xt xo xi = 0) (env : Env w) :
    Calls Tryz.prog 19 #[.agg #[.string ⟨(fr).toArray⟩, .int .i64 tz, .int .i64 st, .int .i64 ti, .bool (bl), sv, fv], .int .i64 xt, .int .i64 xo, .int .i64 xi] w fun e w' => e = .returned (.tuple #[.agg #[.string ⟨#[]⟩, .int .i64 0, .int .i64 0, .int .i64 0, .bool false, .slice none 0 0, .slice none 0 0], .int .i64 (mgE fr tz st ti su fd xt xo xi)]) ∧ Below w.heap.size w w' := by
  obtain ⟨ps, zs, rfl⟩ : ∃ ps zs, sv = .slice ps su.length zs := by obtain ⟨a, b, e, -⟩ := hs; exact ⟨a, b, e⟩
  obtain ⟨pf, zf, rfl⟩ : ∃ pf zf, fv = .slice pf fd.length zf := by obtain ⟨a, b, e, -⟩ := hf; exact ⟨a, b, e⟩
  have ENV := Lib.hid env; clear env
  have hal := ((Below.refl w.heap.size w).alloc (Nat.le_refl _) (.cells #[.string ⟨(fr).toArray⟩, .int .i64 tz, .int .i64 st, .int .i64 ti, .bool (bl), (.slice ps su.length zs), (.slice pf fd.length zf)] 28)).alloc (by simp) (.cells #[.string ⟨#[]⟩, .int .i64 0, .int .i64 0, .int .i64 0, .bool false, .slice none 0 0, .slice none 0 0] 28)
  have HB := Lib.hid hal
  have HK := Lib.hid ((Blk.new w 28 #[.string ⟨(fr).toArray⟩, .int .i64 tz, .int .i64 st, .int .i64 ti, .bool (bl), (.slice ps su.length zs), (.slice pf fd.length zf)]).alloc (.cells #[.string ⟨#[]⟩, .int .i64 0, .int .i64 0, .int .i64 0, .bool false, .slice none 0 0, .slice none 0 0] 28))
  have hR := Blk.new (w.alloc (.cells #[.string ⟨(fr).toArray⟩, .int .i64 tz, .int .i64 st, .int .i64 ti, .bool (bl), (.slice ps su.length zs), (.slice pf fd.length zf)] 28)) 28 #[.string ⟨#[]⟩, .int .i64 0, .int .i64 0, .int .i64 0, .bool false, .slice none 0 0, .slice none 0 0]
  rw [World.size_alloc] at hR
  have HR := Lib.hid hR; clear hR
  obtain ⟨k0, k1, k2, k3, k4, k5, k6, kf0, kf1, kf2, kf3, kf4, kf5, kf6⟩ := HK.out.c7
  obtain ⟨r0, r1, r2, r3, r4, r5, r6, rf0, rf1, rf2, rf3, rf4, rf5, rf6⟩ := HR.out.c7
  have HS := Lib.hid (SbsAt.kept hs hal)
  have HF := Lib.hid (FdsAt.kept hf hal)
  clear hs hf hal
  have hc := fun W (h1 : SbsAt W (.slice ps su.length zs) su) (h2 : FdsAt W (.slice pf fd.length zf) fd) (e : Env W) => own_mcheck tz st ti bl fr (.slice ps su.length zs) (.slice pf fd.length zf) su fd W h1 h2 (by omega) (fun i hi => Nat.le_trans (hl i hi) (by omega)) e
  by_cases h0 : maE fr tz st ti su fd = 0
  · rw [h0] at hc
    rw [mgE_go h0] at hz ⊢
    have hg := fun W (e : Env W) => own_ggo_bad fr tz st ti xt xo xi W (by omega) hz e
    have hne : ((goE fr tz st ti xt xo xi : Int) != 0) = true := by simpa using hz
    clear hz h0 hl
    generalize goE fr tz st ti xt xo xi = m at *
    have HC := Lib.hid hc; clear hc
    have HG := Lib.hid hg; clear hg
    go_enter Tryz.func19, Tryz.ntmps19
    go_upto_region 5 with (first | (with_reducible refine ((HC.out _ HS.out HF.out (ENV.out.below HB.out)).mono ?_); rintro e w' ⟨rfl, hb⟩; replace HK := Lib.hid (HK.out.keep hb); clear k0 k1 k2 k3 k4 k5 k6 kf0 kf1 kf2 kf3 kf4 kf5 kf6; replace HR := Lib.hid (HR.out.keep hb); clear r0 r1 r2 r3 r4 r5 r6 rf0 rf1 rf2 rf3 rf4 rf5 rf6; replace HS := Lib.hid (SbsAt.kept HS.out hb); replace HF := Lib.hid (FdsAt.kept HF.out hb); replace HB := Lib.hid (bch' HB.out hb); clear hb; obtain ⟨k0, k1, k2, k3, k4, k5, k6, kf0, kf1, kf2, kf3, kf4, kf5, kf6⟩ := HK.out.c7; obtain ⟨r0, r1, r2, r3, r4, r5, r6, rf0, rf1, rf2, rf3, rf4, rf5, rf6⟩ := HR.out.c7) | (with_reducible refine ((HG.out _ (ENV.out.below HB.out)).mono ?_); rintro e w' ⟨rfl, hb⟩; replace HK := Lib.hid (HK.out.keep hb); clear k0 k1 k2 k3 k4 k5 k6 kf0 kf1 kf2 kf3 kf4 kf5 kf6; replace HR := Lib.hid (HR.out.keep hb); clear r0 r1 r2 r3 r4 r5 r6 rf0 rf1 rf2 rf3 rf4 rf5 rf6; replace HS := Lib.hid (SbsAt.kept HS.out hb); replace HF := Lib.hid (FdsAt.kept HF.out hb); replace HB := Lib.hid (bch' HB.out hb); clear hb; obtain ⟨k0, k1, k2, k3, k4, k5, k6, kf0, kf1, kf2, kf3, kf4, kf5, kf6⟩ := HK.out.c7; obtain ⟨r0, r1, r2, r3, r4, r5, r6, rf0, rf1, rf2, rf3, rf4, rf5, rf6⟩ := HR.out.c7))
    have HG0 := Lib.hid (Blk.new w' 24 #[.string ⟨#[]⟩, .int .i64 0, .int .i64 0, .int .i64 0])
    have HK2 := Lib.hid (HK.out.alloc (.cells #[.string ⟨#[]⟩, .int .i64 0, .int .i64 0, .int .i64 0] 24))
    have HR2 := Lib.hid (HR.out.alloc (.cells #[.string ⟨#[]⟩, .int .i64 0, .int .i64 0, .int .i64 0] 24))
    have HB2 := Lib.hid (HB.out.alloc HB.out.size (.cells #[.string ⟨#[]⟩, .int .i64 0, .int .i64 0, .int .i64 0] 24))
    clear k0 k1 k2 k3 k4 k5 k6 kf0 kf1 kf2 kf3 kf4 kf5 kf6; clear r0 r1 r2 r3 r4 r5 r6 rf0 rf1 rf2 rf3 rf4 rf5 rf6
    clear HK HR HB HS HF
    generalize w'.alloc (.cells #[.string ⟨#[]⟩, .int .i64 0, .int .i64 0, .int .i64 0] 24) = w5 at *
    have HK := HK2; have HR := HR2; have HB := HB2; clear HK2 HR2 HB2
    obtain ⟨k0, k1, k2, k3, k4, k5, k6, kf0, kf1, kf2, kf3, kf4, kf5, kf6⟩ := HK.out.c7
    obtain ⟨r0, r1, r2, r3, r4, r5, r6, rf0, rf1, rf2, rf3, rf4, rf5, rf6⟩ := HR.out.c7
    obtain ⟨g0, g1, g2, g3, gf0, gf1, gf2, gf3⟩ := HG0.out.c4
    go_wp2_with fail
    refine bodyPost_ret_by (v := .tuple #[.agg #[.string ⟨#[]⟩, .int .i64 0, .int .i64 0, .int .i64 0, .bool false, .slice none 0 0, .slice none 0 0], .int .i64 m]) (by simp [results, Tryz.f19, go_sem, r0, r1, r2, r3, r4, r5, r6, rf0, rf1, rf2, rf3, rf4, rf5, rf6]) rfl ⟨rfl, ?_⟩
    exact (((((((HB.out.setCell (Nat.le_succ _) _).setCell (Nat.le_succ _) _).setCell (Nat.le_succ _) _).setCell (Nat.le_succ _) _).setCell (Nat.le_succ _) _).setCell (Nat.le_succ _) _).setCell (Nat.le_succ _) _)
  · rw [mgE_ma h0]
    have hne : ((maE fr tz st ti su fd : Int) != 0) = true := by simpa using h0
    clear h0 hz hl
    generalize maE fr tz st ti su fd = m at *
    have HC := Lib.hid hc; clear hc
    go_enter Tryz.func19, Tryz.ntmps19
    go_wp2_with (first | (with_reducible refine ((HC.out _ HS.out HF.out (ENV.out.below HB.out)).mono ?_); rintro e w' ⟨rfl, hb⟩; replace HK := Lib.hid (HK.out.keep hb); clear k0 k1 k2 k3 k4 k5 k6 kf0 kf1 kf2 kf3 kf4 kf5 kf6; replace HR := Lib.hid (HR.out.keep hb); clear r0 r1 r2 r3 r4 r5 r6 rf0 rf1 rf2 rf3 rf4 rf5 rf6; replace HS := Lib.hid (SbsAt.kept HS.out hb); replace HF := Lib.hid (FdsAt.kept HF.out hb); replace HB := Lib.hid (bch' HB.out hb); clear hb; obtain ⟨k0, k1, k2, k3, k4, k5, k6, kf0, kf1, kf2, kf3, kf4, kf5, kf6⟩ := HK.out.c7; obtain ⟨r0, r1, r2, r3, r4, r5, r6, rf0, rf1, rf2, rf3, rf4, rf5, rf6⟩ := HR.out.c7))
    refine bodyPost_ret_by (v := .tuple #[.agg #[.string ⟨#[]⟩, .int .i64 0, .int .i64 0, .int .i64 0, .bool false, .slice none 0 0, .slice none 0 0], .int .i64 m]) (by simp [results, Tryz.f19, go_sem, r0, r1, r2, r3, r4, r5, r6, rf0, rf1, rf2, rf3, rf4, rf5, rf6]) rfl ⟨rfl, ?_⟩
    exact (((((((HB.out.setCell (Nat.le_succ _) _).setCell (Nat.le_succ _) _).setCell (Nat.le_succ _) _).setCell (Nat.le_succ _) _).setCell (Nat.le_succ _) _).setCell (Nat.le_succ _) _).setCell (Nat.le_succ _) _)

set_option maxRecDepth 100000 in
set_option maxHeartbeats 4000000 in
theorem own_mgo_ok (tz st ti : Int) (bl : Bool) (fr : Txt) (sv fv : Value) (su : List Sb) (fd : List Fdr) (xt xo xi : Int) (w : World) (hs : SbsAt w sv su) (hf : FdsAt w fv fd) (hx : fr.length ≤ 60) (hl : ∀ i, i < fd.length → (fdv fd i).fr.length ≤ 60) (hz : mgE fr tz st ti su fd xt xo xi = 0) (env : Env w) :
    Calls Tryz.prog 19 #[.agg #[.string ⟨(fr).toArray⟩, .int .i64 tz, .int .i64 st, .int .i64 ti, .bool (bl), sv, fv], .int .i64 xt, .int .i64 xo, .int .i64 xi] w fun e w' => e = .returned (.tuple #[.agg #[.string ⟨(showR (glV (valR fr) tz st ti xt)).toArray⟩, .int .i64 xo, .int .i64 xt, .int .i64 xi, .bool (bl), sv, fv], .int .i64 0]) ∧ Below w.heap.size w w' := by
  obtain ⟨ps, zs, rfl⟩ : ∃ ps zs, sv = .slice ps su.length zs := by obtain ⟨a, b, e, -⟩ := hs; exact ⟨a, b, e⟩
  obtain ⟨pf, zf, rfl⟩ : ∃ pf zf, fv = .slice pf fd.length zf := by obtain ⟨a, b, e, -⟩ := hf; exact ⟨a, b, e⟩
  have ENV := Lib.hid env; clear env
  have hal := ((Below.refl w.heap.size w).alloc (Nat.le_refl _) (.cells #[.string ⟨(fr).toArray⟩, .int .i64 tz, .int .i64 st, .int .i64 ti, .bool (bl), (.slice ps su.length zs), (.slice pf fd.length zf)] 28)).alloc (by simp) (.cells #[.string ⟨#[]⟩, .int .i64 0, .int .i64 0, .int .i64 0, .bool false, .slice none 0 0, .slice none 0 0] 28)
  have HB := Lib.hid hal
  have HK := Lib.hid ((Blk.new w 28 #[.string ⟨(fr).toArray⟩, .int .i64 tz, .int .i64 st, .int .i64 ti, .bool (bl), (.slice ps su.length zs), (.slice pf fd.length zf)]).alloc (.cells #[.string ⟨#[]⟩, .int .i64 0, .int .i64 0, .int .i64 0, .bool false, .slice none 0 0, .slice none 0 0] 28))
  have hR := Blk.new (w.alloc (.cells #[.string ⟨(fr).toArray⟩, .int .i64 tz, .int .i64 st, .int .i64 ti, .bool (bl), (.slice ps su.length zs), (.slice pf fd.length zf)] 28)) 28 #[.string ⟨#[]⟩, .int .i64 0, .int .i64 0, .int .i64 0, .bool false, .slice none 0 0, .slice none 0 0]
  rw [World.size_alloc] at hR
  have HR := Lib.hid hR; clear hR
  obtain ⟨k0, k1, k2, k3, k4, k5, k6, kf0, kf1, kf2, kf3, kf4, kf5, kf6⟩ := HK.out.c7
  obtain ⟨r0, r1, r2, r3, r4, r5, r6, rf0, rf1, rf2, rf3, rf4, rf5, rf6⟩ := HR.out.c7
  have HS := Lib.hid (SbsAt.kept hs hal)
  have HF := Lib.hid (FdsAt.kept hf hal)
  clear hs hf hal
  have hc := fun W (h1 : SbsAt W (.slice ps su.length zs) su) (h2 : FdsAt W (.slice pf fd.length zf) fd) (e : Env W) => own_mcheck tz st ti bl fr (.slice ps su.length zs) (.slice pf fd.length zf) su fd W h1 h2 (by omega) (fun i hi => Nat.le_trans (hl i hi) (by omega)) e
  have h0 : maE fr tz st ti su fd = 0 := by
    by_cases g : maE fr tz st ti su fd = 0
    · exact g
    · rw [mgE_ma g] at hz; exact hz
  rw [h0] at hc
  rw [mgE_go h0] at hz
  have hg := fun W (e : Env W) => own_ggo_ok fr tz st ti xt xo xi W (by omega) hz e
  clear hz h0 hl
  generalize showR (glV (valR fr) tz st ti xt) = tr at *
  have HC := Lib.hid hc; clear hc
  have HG := Lib.hid hg; clear hg
  go_enter Tryz.func19, Tryz.ntmps19
  go_upto_region 5 with (first | (with_reducible refine ((HC.out _ HS.out HF.out (ENV.out.below HB.out)).mono ?_); rintro e w' ⟨rfl, hb⟩; replace HK := Lib.hid (HK.out.keep hb); clear k0 k1 k2 k3 k4 k5 k6 kf0 kf1 kf2 kf3 kf4 kf5 kf6; replace HR := Lib.hid (HR.out.keep hb); clear r0 r1 r2 r3 r4 r5 r6 rf0 rf1 rf2 rf3 rf4 rf5 rf6; replace HS := Lib.hid (SbsAt.kept HS.out hb); replace HF := Lib.hid (FdsAt.kept HF.out hb); replace HB := Lib.hid (bch' HB.out hb); clear hb; obtain ⟨k0, k1, k2, k3, k4, k5, k6, kf0, kf1, kf2, kf3, kf4, kf5, kf6⟩ := HK.out.c7; obtain ⟨r0, r1, r2, r3, r4, r5, r6, rf0, rf1, rf2, rf3, rf4, rf5, rf6⟩ := HR.out.c7) | (with_reducible refine ((HG.out _ (ENV.out.below HB.out)).mono ?_); rintro e w' ⟨rfl, hb⟩; replace HK := Lib.hid (HK.out.keep hb); clear k0 k1 k2 k3 k4 k5 k6 kf0 kf1 kf2 kf3 kf4 kf5 kf6; replace HR := Lib.hid (HR.out.keep hb); clear r0 r1 r2 r3 r4 r5 r6 rf0 rf1 rf2 rf3 rf4 rf5 rf6; replace HS := Lib.hid (SbsAt.kept HS.out hb); replace HF := Lib.hid (FdsAt.kept HF.out hb); replace HB := Lib.hid (bch' HB.out hb); clear hb; obtain ⟨k0, k1, k2, k3, k4, k5, k6, kf0, kf1, kf2, kf3, kf4, kf5, kf6⟩ := HK.out.c7; obtain ⟨r0, r1, r2, r3, r4, r5, r6, rf0, rf1, rf2, rf3, rf4, rf5, rf6⟩ := HR.out.c7))
  have HG0 := Lib.hid (Blk.new w' 24 #[.string ⟨(tr).toArray⟩, .int .i64 xo, .int .i64 xt, .int .i64 xi])
  have HK2 := Lib.hid (HK.out.alloc (.cells #[.string ⟨(tr).toArray⟩, .int .i64 xo, .int .i64 xt, .int .i64 xi] 24))
  have HR2 := Lib.hid (HR.out.alloc (.cells #[.string ⟨(tr).toArray⟩, .int .i64 xo, .int .i64 xt, .int .i64 xi] 24))
  have HB2 := Lib.hid (HB.out.alloc HB.out.size (.cells #[.string ⟨(tr).toArray⟩, .int .i64 xo, .int .i64 xt, .int .i64 xi] 24))
  clear k0 k1 k2 k3 k4 k5 k6 kf0 kf1 kf2 kf3 kf4 kf5 kf6; clear r0 r1 r2 r3 r4 r5 r6 rf0 rf1 rf2 rf3 rf4 rf5 rf6
  clear HK HR HB HS HF
  generalize w'.alloc (.cells #[.string ⟨(tr).toArray⟩, .int .i64 xo, .int .i64 xt, .int .i64 xi] 24) = w5 at *
  have HK := HK2; have HR := HR2; have HB := HB2; clear HK2 HR2 HB2
  obtain ⟨k0, k1, k2, k3, k4, k5, k6, kf0, kf1, kf2, kf3, kf4, kf5, kf6⟩ := HK.out.c7
  obtain ⟨r0, r1, r2, r3, r4, r5, r6, rf0, rf1, rf2, rf3, rf4, rf5, rf6⟩ := HR.out.c7
  obtain ⟨g0, g1, g2, g3, gf0, gf1, gf2, gf3⟩ := HG0.out.c4
  go_upto_region 8 with fail
  have HK2 := Lib.hid (HK.out.gl7 (.string ⟨(tr).toArray⟩) (.int .i64 xo) (.int .i64 xt) (.int .i64 xi))
  have HR2 := Lib.hid (Blk.far4 HR.out (Nat.succ_ne_self w.heap.size) (.string ⟨(tr).toArray⟩) (.int .i64 xo) (.int .i64 xt) (.int .i64 xi))
  have HB2 := Lib.hid (bset4 HB.out (Nat.le_refl _) (.string ⟨(tr).toArray⟩) (.int .i64 xo) (.int .i64 xt) (.int .i64 xi))
  clear k0 k1 k2 k3 k4 k5 k6 kf0 kf1 kf2 kf3 kf4 kf5 kf6; clear r0 r1 r2 r3 r4 r5 r6 rf0 rf1 rf2 rf3 rf4 rf5 rf6
  clear HK HR HB HG0; clear g0 g1 g2 g3 gf0 gf1 gf2 gf3
  generalize ((((w5.setCell ⟨w.heap.size, 0, none⟩ (.string ⟨(tr).toArray⟩)).setCell ⟨w.heap.size, 1, none⟩ (.int .i64 xo)).setCell ⟨w.heap.size, 2, none⟩ (.int .i64 xt)).setCell ⟨w.heap.size, 3, none⟩ (.int .i64 xi)) = w6 at *
  have HK := HK2; have HR := HR2; have HB := HB2; clear HK2 HR2 HB2
  obtain ⟨k0, k1, k2, k3, k4, k5, k6, kf0, kf1, kf2, kf3, kf4, kf5, kf6⟩ := HK.out.c7
  obtain ⟨r0, r1, r2, r3, r4, r5, r6, rf0, rf1, rf2, rf3, rf4, rf5, rf6⟩ := HR.out.c7
  go_wp2_with fail
  refine bodyPost_ret_by (v := .tuple #[.agg #[.string ⟨(tr).toArray⟩, .int .i64 xo, .int .i64 xt, .int .i64 xi, .bool (bl), (.slice ps su.length zs), (.slice pf fd.length zf)], .int .i64 0]) (by simp [results, Tryz.f19, go_sem, r0, r1, r2, r3, r4, r5, r6, rf0, rf1, rf2, rf3, rf4, rf5, rf6]) rfl ⟨rfl, ?_⟩
  exact (((((((HB.out.setCell (Nat.le_succ _) _).setCell (Nat.le_succ _) _).setCell (Nat.le_succ _) _).setCell (Nat.le_succ _) _).setCell (Nat.le_succ _) _).setCell (Nat.le_succ _) _).setCell (Nat.le_succ _) _)

set_option maxRecDepth 100000 in
set_option maxHeartbeats 4000000 in
theorem r30_go_bad (tz st ti : Int) (bl : Bool) (fr : Txt) (sv fv : Value) (su : List Sb) (fd : List Fdr) (xt xo xi : Int) (w : World) (hs : SbsAt w sv su) (hf : FdsAt w fv fd) (hx : fr.length ≤ 60) (hl : ∀ i, i < fd.length → (fdv fd i).fr.length ≤ 60) (hz : ¬ mgE fr tz st ti su fd xt xo xi = 0) :
    Calls Tryz.prog 20 #[.agg #[.string ⟨(fr).toArray⟩, .int .i64 tz, .int .i64 st, .int .i64 ti, .bool (bl), sv, fv], .int .i64 xt, .int .i64 xo, .int .i64 xi] w fun e w' => e = .returned (.tuple #[.agg #[.string ⟨#[]⟩, .int .i64 0, .int .i64 0, .int .i64 0, .bool false, .slice none 0 0, .slice none 0 0], .int .i64 (mgE fr tz st ti su fd xt xo xi)]) ∧ Below w.heap.size w w' := by
  obtain ⟨ps, zs, rfl⟩ : ∃ ps zs, sv = .slice ps su.length zs := by obtain ⟨a, b, e, -⟩ := hs; exact ⟨a, b, e⟩
  obtain ⟨pf, zf, rfl⟩ : ∃ pf zf, fv = .slice pf fd.length zf := by obtain ⟨a, b, e, -⟩ := hf; exact ⟨a, b, e⟩
  have hal := ((Below.refl w.heap.size w).alloc (Nat.le_refl _) (.cells #[.string ⟨(fr).toArray⟩, .int .i64 tz, .int .i64 st, .int .i64 ti, .bool (bl), (.slice ps su.length zs), (.slice pf fd.length zf)] 32)).alloc (by simp) (.cells #[.string ⟨#[]⟩, .int .i64 0, .int .i64 0, .int .i64 0, .bool false, .slice none 0 0, .slice none 0 0] 32)
  have HB := Lib.hid hal
  have HK := Lib.hid ((Blk.new w 32 #[.string ⟨(fr).toArray⟩, .int .i64 tz, .int .i64 st, .int .i64 ti, .bool (bl), (.slice ps su.length zs), (.slice pf fd.length zf)]).alloc (.cells #[.string ⟨#[]⟩, .int .i64 0, .int .i64 0, .int .i64 0, .bool false, .slice none 0 0, .slice none 0 0] 32))
  have hR := Blk.new (w.alloc (.cells #[.string ⟨(fr).toArray⟩, .int .i64 tz, .int .i64 st, .int .i64 ti, .bool (bl), (.slice ps su.length zs), (.slice pf fd.length zf)] 32)) 32 #[.string ⟨#[]⟩, .int .i64 0, .int .i64 0, .int .i64 0, .bool false, .slice none 0 0, .slice none 0 0]
  rw [World.size_alloc] at hR
  have HR := Lib.hid hR; clear hR
  obtain ⟨k0, k1, k2, k3, k4, k5, k6, kf0, kf1, kf2, kf3, kf4, kf5, kf6⟩ := HK.out.c7
  obtain ⟨r0, r1, r2, r3, r4, r5, r6, rf0, rf1, rf2, rf3, rf4, rf5, rf6⟩ := HR.out.c7
  have HS := Lib.hid (SbsAt.kept hs hal)
  have HF := Lib.hid (FdsAt.kept hf hal)
  clear hs hf hal
  have hc := fun W (h1 : SbsAt W (.slice ps su.length zs) su) (h2 : FdsAt W (.slice pf fd.length zf) fd) => r30_check tz st ti bl fr (.slice ps su.length zs) (.slice pf fd.length zf) su fd W h1 h2 (by omega) (fun i hi => Nat.le_trans (hl i hi) (by omega))
  by_cases h0 : maE fr tz st ti su fd = 0
  · rw [h0] at hc
    rw [mgE_go h0] at hz ⊢
    have hg := fun W => r3_go_bad fr tz st ti xt xo xi W (by omega) hz
    have hne : ((goE fr tz st ti xt xo xi : Int) != 0) = true := by simpa using hz
    clear hz h0 hl
    generalize goE fr tz st ti xt xo xi = m at *
    have HC := Lib.hid hc; clear hc
    have HG := Lib.hid hg; clear hg
    go_enter Tryz.func20, Tryz.ntmps20
    go_upto_region 5 with (first | (with_reducible refine ((HC.out _ HS.out HF.out).mono ?_); rintro e w' ⟨rfl, hb⟩; replace HK := Lib.hid (HK.out.keep hb); clear k0 k1 k2 k3 k4 k5 k6 kf0 kf1 kf2 kf3 kf4 kf5 kf6; replace HR := Lib.hid (HR.out.keep hb); clear r0 r1 r2 r3 r4 r5 r6 rf0 rf1 rf2 rf3 rf4 rf5 rf6; replace HS := Lib.hid (SbsAt.kept HS.out hb); replace HF := Lib.hid (FdsAt.kept HF.out hb); replace HB := Lib.hid (bch' HB.out hb); clear hb; obtain ⟨k0, k1, k2, k3, k4, k5, k6, kf0, kf1, kf2, kf3, kf4, kf5, kf6⟩ := HK.out.c7; obtain ⟨r0, r1, r2, r3, r4, r5, r6, rf0, rf1, rf2, rf3, rf4, rf5, rf6⟩ := HR.out.c7) | (with_reducible refine ((HG.out _).mono ?_); rintro e w' ⟨rfl, hb⟩; replace HK := Lib.hid (HK.out.keep hb); clear k0 k1 k2 k3 k4 k5 k6 kf0 kf1 kf2 kf3 kf4 kf5 kf6; replace HR := Lib.hid (HR.out.keep hb); clear r0 r1 r2 r3 r4 r5 r6 rf0 rf1 rf2 rf3 rf4 rf5 rf6; replace HS := Lib.hid (SbsAt.kept HS.out hb); replace HF := Lib.hid (FdsAt.kept HF.out hb); replace HB := Lib.hid (bch' HB.out hb); clear hb; obtain ⟨k0, k1, k2, k3, k4, k5, k6, kf0, kf1, kf2, kf3, kf4, kf5, kf6⟩ := HK.out.c7; obtain ⟨r0, r1, r2, r3, r4, r5, r6, rf0, rf1, rf2, rf3, rf4, rf5, rf6⟩ := HR.out.c7))
    have HG0 := Lib.hid (Blk.new w' 24 #[.string ⟨#[]⟩, .int .i64 0, .int .i64 0, .int .i64 0])
    have HK2 := Lib.hid (HK.out.alloc (.cells #[.string ⟨#[]⟩, .int .i64 0, .int .i64 0, .int .i64 0] 24))
    have HR2 := Lib.hid (HR.out.alloc (.cells #[.string ⟨#[]⟩, .int .i64 0, .int .i64 0, .int .i64 0] 24))
    have HB2 := Lib.hid (HB.out.alloc HB.out.size (.cells #[.string ⟨#[]⟩, .int .i64 0, .int .i64 0, .int .i64 0] 24))
    clear k0 k1 k2 k3 k4 k5 k6 kf0 kf1 kf2 kf3 kf4 kf5 kf6; clear r0 r1 r2 r3 r4 r5 r6 rf0 rf1 rf2 rf3 rf4 rf5 rf6
    clear HK HR HB HS HF
    generalize w'.alloc (.cells #[.string ⟨#[]⟩, .int .i64 0, .int .i64 0, .int .i64 0] 24) = w5 at *
    have HK := HK2; have HR := HR2; have HB := HB2; clear HK2 HR2 HB2
    obtain ⟨k0, k1, k2, k3, k4, k5, k6, kf0, kf1, kf2, kf3, kf4, kf5, kf6⟩ := HK.out.c7
    obtain ⟨r0, r1, r2, r3, r4, r5, r6, rf0, rf1, rf2, rf3, rf4, rf5, rf6⟩ := HR.out.c7
    obtain ⟨g0, g1, g2, g3, gf0, gf1, gf2, gf3⟩ := HG0.out.c4
    go_wp2_with fail
    refine bodyPost_ret_by (v := .tuple #[.agg #[.string ⟨#[]⟩, .int .i64 0, .int .i64 0, .int .i64 0, .bool false, .slice none 0 0, .slice none 0 0], .int .i64 m]) (by simp [results, Tryz.f20, go_sem, r0, r1, r2, r3, r4, r5, r6, rf0, rf1, rf2, rf3, rf4, rf5, rf6]) rfl ⟨rfl, ?_⟩
    exact (((((((HB.out.setCell (Nat.le_succ _) _).setCell (Nat.le_succ _) _).setCell (Nat.le_succ _) _).setCell (Nat.le_succ _) _).setCell (Nat.le_succ _) _).setCell (Nat.le_succ _) _).setCell (Nat.le_succ _) _)
  · rw [mgE_ma h0]
    have hne : ((maE fr tz st ti su fd : Int) != 0) = true := by simpa using h0
    clear h0 hz hl
    generalize maE fr tz st ti su fd = m at *
    have HC := Lib.hid hc; clear hc
    go_enter Tryz.func20, Tryz.ntmps20
    go_wp2_with (first | (with_reducible refine ((HC.out _ HS.out HF.out).mono ?_); rintro e w' ⟨rfl, hb⟩; replace HK := Lib.hid (HK.out.keep hb); clear k0 k1 k2 k3 k4 k5 k6 kf0 kf1 kf2 kf3 kf4 kf5 kf6; replace HR := Lib.hid (HR.out.keep hb); clear r0 r1 r2 r3 r4 r5 r6 rf0 rf1 rf2 rf3 rf4 rf5 rf6; replace HS := Lib.hid (SbsAt.kept HS.out hb); replace HF := Lib.hid (FdsAt.kept HF.out hb); replace HB := Lib.hid (bch' HB.out hb); clear hb; obtain ⟨k0, k1, k2, k3, k4, k5, k6, kf0, kf1, kf2, kf3, kf4, kf5, kf6⟩ := HK.out.c7; obtain ⟨r0, r1, r2, r3, r4, r5, r6, rf0, rf1, rf2, rf3, rf4, rf5, rf6⟩ := HR.out.c7))
    refine bodyPost_ret_by (v := .tuple #[.agg #[.string ⟨#[]⟩, .int .i64 0, .int .i64 0, .int .i64 0, .bool false, .slice none 0 0, .slice none 0 0], .int .i64 m]) (by simp [results, Tryz.f20, go_sem, r0, r1, r2, r3, r4, r5, r6, rf0, rf1, rf2, rf3, rf4, rf5, rf6]) rfl ⟨rfl, ?_⟩
    exact (((((((HB.out.setCell (Nat.le_succ _) _).setCell (Nat.le_succ _) _).setCell (Nat.le_succ _) _).setCell (Nat.le_succ _) _).setCell (Nat.le_succ _) _).setCell (Nat.le_succ _) _).setCell (Nat.le_succ _) _)

set_option maxRecDepth 100000 in
set_option maxHeartbeats 4000000 in
theorem r30_go_ok (tz st ti : Int) (bl : Bool) (fr : Txt) (sv fv : Value) (su : List Sb) (fd : List Fdr) (xt xo xi : Int) (w : World) (hs : SbsAt w sv su) (hf : FdsAt w fv fd) (hx : fr.length ≤ 60) (hl : ∀ i, i < fd.length → (fdv fd i).fr.length ≤ 60) (hz : mgE fr tz st ti su fd xt xo xi = 0) :
    Calls Tryz.prog 20 #[.agg #[.string ⟨(fr).toArray⟩, .int .i64 tz, .int .i64 st, .int .i64 ti, .bool (bl), sv, fv], .int .i64 xt, .int .i64 xo, .int .i64 xi] w fun e w' => e = .returned (.tuple #[.agg #[.string ⟨(showR (glV (valR fr) tz st ti xt)).toArray⟩, .int .i64 xo, .int .i64 xt, .int .i64 xi, .bool (bl), sv, fv], .int .i64 0]) ∧ Below w.heap.size w w' := by
  obtain ⟨ps, zs, rfl⟩ : ∃ ps zs, sv = .slice ps su.length zs := by obtain ⟨a, b, e, -⟩ := hs; exact ⟨a, b, e⟩
  obtain ⟨pf, zf, rfl⟩ : ∃ pf zf, fv = .slice pf fd.length zf := by obtain ⟨a, b, e, -⟩ := hf; exact ⟨a, b, e⟩
  have hal := ((Below.refl w.heap.size w).alloc (Nat.le_refl _) (.cells #[.string ⟨(fr).toArray⟩, .int .i64 tz, .int .i64 st, .int .i64 ti, .bool (bl), (.slice ps su.length zs), (.slice pf fd.length zf)] 32)).alloc (by simp) (.cells #[.string ⟨#[]⟩, .int .i64 0, .int .i64 0, .int .i64 0, .bool false, .slice none 0 0, .slice none 0 0] 32)
  have HB := Lib.hid hal
  have HK := Lib.hid ((Blk.new w 32 #[.string ⟨(fr).toArray⟩, .int .i64 tz, .int .i64 st, .int .i64 ti, .bool (bl), (.slice ps su.length zs), (.slice pf fd.length zf)]).alloc (.cells #[.string ⟨#[]⟩, .int .i64 0, .int .i64 0, .int .i64 0, .bool false, .slice none 0 0, .slice none 0 0] 32))
  have hR := Blk.new (w.alloc (.cells #[.string ⟨(fr).toArray⟩, .int .i64 tz, .int .i64 st, .int .i64 ti, .bool (bl), (.slice ps su.length zs), (.slice pf fd.length zf)] 32)) 32 #[.string ⟨#[]⟩, .int .i64 0, .int .i64 0, .int .i64 0, .bool false, .slice none 0 0, .slice none 0 0]
  rw [World.size_alloc] at hR
  have HR := Lib.hid hR; clear hR
  obtain ⟨k0, k1, k2, k3, k4, k5, k6, kf0, kf1, kf2, kf3, kf4, kf5, kf6⟩ := HK.out.c7
  obtain ⟨r0, r1, r2, r3, r4, r5, r6, rf0, rf1, rf2, rf3, rf4, rf5, rf6⟩ := HR.out.c7
  have HS := Lib.hid (SbsAt.kept hs hal)
  have HF := Lib.hid (FdsAt.kept hf hal)
  clear hs hf hal
  have hc := fun W (h1 : SbsAt W (.slice ps su.length zs) su) (h2 : FdsAt W (.slice pf fd.length zf) fd) => r30_check tz st ti bl fr (.slice ps su.length zs) (.slice pf fd.length zf) su fd W h1 h2 (by omega) (fun i hi => Nat.le_trans (hl i hi) (by omega))
  have h0 : maE fr tz st ti su fd = 0 := by
    by_cases g : maE fr tz st ti su fd = 0
    · exact g
    · rw [mgE_ma g] at hz; exact hz
  rw [h0] at hc
  rw [mgE_go h0] at hz
  have hg := fun W => r3_go_ok fr tz st ti xt xo xi W (by omega) hz
  clear hz h0 hl
  generalize showR (glV (valR fr) tz st ti xt) = tr at *
  have HC := Lib.hid hc; clear hc
  have HG := Lib.hid hg; clear hg
  go_enter Tryz.func20, Tryz.ntmps20
  go_upto_region 5 with (first | (with_reducible refine ((HC.out _ HS.out HF.out).mono ?_); rintro e w' ⟨rfl, hb⟩; replace HK := Lib.hid (HK.out.keep hb); clear k0 k1 k2 k3 k4 k5 k6 kf0 kf1 kf2 kf3 kf4 kf5 kf6; replace HR := Lib.hid (HR.out.keep hb); clear r0 r1 r2 r3 r4 r5 r6 rf0 rf1 rf2 rf3 rf4 rf5 rf6; replace HS := Lib.hid (SbsAt.kept HS.out hb); replace HF := Lib.hid (FdsAt.kept HF.out hb); replace HB := Lib.hid (bch' HB.out hb); clear hb; obtain ⟨k0, k1, k2, k3, k4, k5, k6, kf0, kf1, kf2, kf3, kf4, kf5, kf6⟩ := HK.out.c7; obtain ⟨r0, r1, r2, r3, r4, r5, r6, rf0, rf1, rf2, rf3, rf4, rf5, rf6⟩ := HR.out.c7) | (with_reducible refine ((HG.out _).mono ?_); rintro e w' ⟨rfl, hb⟩; replace HK := Lib.hid (HK.out.keep hb); clear k0 k1 k2 k3 k4 k5 k6 kf0 kf1 kf2 kf3 kf4 kf5 kf6; replace HR := Lib.hid (HR.out.keep hb); clear r0 r1 r2 r3 r4 r5 r6 rf0 rf1 rf2 rf3 rf4 rf5 rf6; replace HS := Lib.hid (SbsAt.kept HS.out hb); replace HF := Lib.hid (FdsAt.kept HF.out hb); replace HB := Lib.hid (bch' HB.out hb); clear hb; obtain ⟨k0, k1, k2, k3, k4, k5, k6, kf0, kf1, kf2, kf3, kf4, kf5, kf6⟩ := HK.out.c7; obtain ⟨r0, r1, r2, r3, r4, r5, r6, rf0, rf1, rf2, rf3, rf4, rf5, rf6⟩ := HR.out.c7))
  have HG0 := Lib.hid (Blk.new w' 24 #[.string ⟨(tr).toArray⟩, .int .i64 xo, .int .i64 xt, .int .i64 xi])
  have HK2 := Lib.hid (HK.out.alloc (.cells #[.string ⟨(tr).toArray⟩, .int .i64 xo, .int .i64 xt, .int .i64 xi] 24))
  have HR2 := Lib.hid (HR.out.alloc (.cells #[.string ⟨(tr).toArray⟩, .int .i64 xo, .int .i64 xt, .int .i64 xi] 24))
  have HB2 := Lib.hid (HB.out.alloc HB.out.size (.cells #[.string ⟨(tr).toArray⟩, .int .i64 xo, .int .i64 xt, .int .i64 xi] 24))
  clear k0 k1 k2 k3 k4 k5 k6 kf0 kf1 kf2 kf3 kf4 kf5 kf6; clear r0 r1 r2 r3 r4 r5 r6 rf0 rf1 rf2 rf3 rf4 rf5 rf6
  clear HK HR HB HS HF
  generalize w'.alloc (.cells #[.string ⟨(tr).toArray⟩, .int .i64 xo, .int .i64 xt, .int .i64 xi] 24) = w5 at *
  have HK := HK2; have HR := HR2; have HB := HB2; clear HK2 HR2 HB2
  obtain ⟨k0, k1, k2, k3, k4, k5, k6, kf0, kf1, kf2, kf3, kf4, kf5, kf6⟩ := HK.out.c7
  obtain ⟨r0, r1, r2, r3, r4, r5, r6, rf0, rf1, rf2, rf3, rf4, rf5, rf6⟩ := HR.out.c7
  obtain ⟨g0, g1, g2, g3, gf0, gf1, gf2, gf3⟩ := HG0.out.c4
  go_upto_region 8 with fail
  have HK2 := Lib.hid (HK.out.gl7 (.string ⟨(tr).toArray⟩) (.int .i64 xo) (.int .i64 xt) (.int .i64 xi))
  have HR2 := Lib.hid (Blk.far4 HR.out (Nat.succ_ne_self w.heap.size) (.string ⟨(tr).toArray⟩) (.int .i64 xo) (.int .i64 xt) (.int .i64 xi))
  have HB2 := Lib.hid (bset4 HB.out (Nat.le_refl _) (.string ⟨(tr).toArray⟩) (.int .i64 xo) (.int .i64 xt) (.int .i64 xi))
  clear k0 k1 k2 k3 k4 k5 k6 kf0 kf1 kf2 kf3 kf4 kf5 kf6; clear r0 r1 r2 r3 r4 r5 r6 rf0 rf1 rf2 rf3 rf4 rf5 rf6
  clear HK HR HB HG0; clear g0 g1 g2 g3 gf0 gf1 gf2 gf3
  generalize ((((w5.setCell ⟨w.heap.size, 0, none⟩ (.string ⟨(tr).toArray⟩)).setCell ⟨w.heap.size, 1, none⟩ (.int .i64 xo)).setCell ⟨w.heap.size, 2, none⟩ (.int .i64 xt)).setCell ⟨w.heap.size, 3, none⟩ (.int .i64 xi)) = w6 at *
  have HK := HK2; have HR := HR2; have HB := HB2; clear HK2 HR2 HB2
  obtain ⟨k0, k1, k2, k3, k4, k5, k6, kf0, kf1, kf2, kf3, kf4, kf5, kf6⟩ := HK.out.c7
  obtain ⟨r0, r1, r2, r3, r4, r5, r6, rf0, rf1, rf2, rf3, rf4, rf5, rf6⟩ := HR.out.c7
  go_wp2_with fail
  refine bodyPost_ret_by (v := .tuple #[.agg #[.string ⟨(tr).toArray⟩, .int .i64 xo, .int .i64 xt, .int .i64 xi, .bool (bl), (.slice ps su.length zs), (.slice pf fd.length zf)], .int .i64 0]) (by simp [results, Tryz.f20, go_sem, r0, r1, r2, r3, r4, r5, r6, rf0, rf1, rf2, rf3, rf4, rf5, rf6]) rfl ⟨rfl, ?_⟩
  exact (((((((HB.out.setCell (Nat.le_succ _) _).setCell (Nat.le_succ _) _).setCell (Nat.le_succ _) _).setCell (Nat.le_succ _) _).setCell (Nat.le_succ _) _).setCell (Nat.le_succ _) _).setCell (Nat.le_succ _) _)
end Go.Proofs.YtkjelfmgnkkijaaGreatDoor
namespace Lum
open Go Go.RowKit Go.Shelf
open Go.Lib (decDigits itoa)
theorem use2 {P Q : Prop} (h : P) (f : P → Q) : Q := f h
end Lum
namespace Go.Proofs.YtkjelfmgnkkijaaGreatDoor
open Go.RowKit Go.Shelf Lum
open Go.Lib (decDigits itoa)
attribute [local go_sem] bs_get bs_extract_end bs_extract_from bs_extract bs_append

theorem g30_go (tz st ti : Int) (bl : Bool) (fr : Txt) (ps pf : Option Addr) (zs zf : Nat) (su : List Sb) (fd : List Fdr) (xt xo xi : Int) (hx : fr.length ≤ 60) (hl : ∀ i, i < fd.length → (fdv fd i).fr.length ≤ 60) :
    ∃ (fr2 : Txt) (tz2 st2 ti2 : Int) (b2 : Bool) (ps2 pf2 : Option Addr) (zs2 zf2 : Nat) (su2 : List Sb) (fd2 : List Fdr) (m : Int), TabOk su2 ∧ fd2.length ≤ 1000 ∧ (∀ W, SbsAt W (.slice ps su.length zs) su → SbsAt W (.slice ps2 su2.length zs2) su2) ∧ (∀ W, FdsAt W (.slice pf fd.length zf) fd → FdsAt W (.slice pf2 fd2.length zf2) fd2) ∧
      (∀ W, SbsAt W (.slice ps su.length zs) su → FdsAt W (.slice pf fd.length zf) fd → Env W → Calls Tryz.prog 19 #[.agg #[.string ⟨(fr).toArray⟩, .int .i64 tz, .int .i64 st, .int .i64 ti, .bool (bl), (.slice ps su.length zs), (.slice pf fd.length zf)], .int .i64 xt, .int .i64 xo, .int .i64 xi] W fun e w' => e = .returned (.tuple #[.agg #[.string ⟨(fr2).toArray⟩, .int .i64 tz2, .int .i64 st2, .int .i64 ti2, .bool (b2), .slice ps2 su2.length zs2, .slice pf2 fd2.length zf2], .int .i64 m]) ∧ Below W.heap.size W w') ∧
      (∀ W, SbsAt W (.slice ps su.length zs) su → FdsAt W (.slice pf fd.length zf) fd → Calls Tryz.prog 20 #[.agg #[.string ⟨(fr).toArray⟩, .int .i64 tz, .int .i64 st, .int .i64 ti, .bool (bl), (.slice ps su.length zs), (.slice pf fd.length zf)], .int .i64 xt, .int .i64 xo, .int .i64 xi] W fun e w' => e = .returned (.tuple #[.agg #[.string ⟨(fr2).toArray⟩, .int .i64 tz2, .int .i64 st2, .int .i64 ti2, .bool (b2), .slice ps2 su2.length zs2, .slice pf2 fd2.length zf2], .int .i64 m]) ∧ Below W.heap.size W w') := by
  by_cases hz : mgE fr tz st ti su fd xt xo xi = 0
  · have hm : maE fr tz st ti su fd = 0 := by
          by_cases g : maE fr tz st ti su fd = 0
          · exact g
          · rw [mgE_ma g] at hz; exact hz
    obtain ⟨m1, m2, m3⟩ := maE_zero hm
    exact ⟨_, _, _, _, bl, ps, pf, zs, zf, su, fd, 0, tabOk m2, by have := (facOk m3).few; omega, fun W h => h, fun W h => h, fun W h1 h2 e => own_mgo_ok tz st ti bl fr (.slice ps su.length zs) (.slice pf fd.length zf) su fd xt xo xi W h1 h2 hx hl hz e, fun W h1 h2 => r30_go_ok tz st ti bl fr (.slice ps su.length zs) (.slice pf fd.length zf) su fd xt xo xi W h1 h2 hx hl hz⟩
  · exact ⟨[], 0, 0, 0, false, none, none, 0, 0, [], [], mgE fr tz st ti su fd xt xo xi, tab_nil, Nat.zero_le _, fun W _ => sbs_nil W, fun W _ => fds_nil W, fun W h1 h2 e => own_mgo_bad tz st ti bl fr (.slice ps su.length zs) (.slice pf fd.length zf) su fd xt xo xi W h1 h2 hx hl hz e, fun W h1 h2 => r30_go_bad tz st ti bl fr (.slice ps su.length zs) (.slice pf fd.length zf) su fd xt xo xi W h1 h2 hx hl hz⟩

set_option maxRecDepth 100000 in
set_option maxHeartbeats 8000000 in
theorem law_goes (fr : Txt) (tz st ti : Int) (bl : Bool) (sv fv : Value) (su : List Sb) (fd : List Fdr) (xt : Int) (xo : Int) (xi : Int) (w : World) (hl0 : fr.length ≤ 9223372036854775807) (hs : SbsAt w sv su) (hf : FdsAt w fv fd) (hrxt : (-9223372036854775808 ≤ xt ∧ xt ≤ 9223372036854775807)) (hrxo : (-9223372036854775808 ≤ xo ∧ xo ≤ 9223372036854775807)) (hrxi : (-9223372036854775808 ≤ xi ∧ xi ≤ 9223372036854775807)) (env : Env w) :
    Calls Tryz.prog 3 #[.agg #[.string ⟨(fr).toArray⟩, .int .i64 tz, .int .i64 st, .int .i64 ti, .bool (bl), sv, fv], .agg #[.int .i64 xt, .int .i64 xo, .int .i64 xi]] w fun e w' => e = .returned (.bool (true)) ∧ Below w.heap.size w w' := by
  obtain ⟨ps, zs, rfl⟩ : ∃ ps zs, sv = .slice ps su.length zs := by obtain ⟨a, b, e, -⟩ := hs; exact ⟨a, b, e⟩
  obtain ⟨pf, zf, rfl⟩ : ∃ pf zf, fv = .slice pf fd.length zf := by obtain ⟨a, b, e, -⟩ := hf; exact ⟨a, b, e⟩
  have ENV := Lib.hid env; clear env
  have HS0 := Lib.hid hs
  have HF0 := Lib.hid hf
  have hal := ((Below.refl w.heap.size w).alloc (Nat.le_refl _) (.cells #[.string ⟨(fr).toArray⟩, .int .i64 tz, .int .i64 st, .int .i64 ti, .bool (bl), (.slice ps su.length zs), (.slice pf fd.length zf)] 28)).alloc (by simp) (.cells #[.int .i64 xt, .int .i64 xo, .int .i64 xi] 30)
  have HS := Lib.hid (SbsAt.kept hs hal)
  have HF := Lib.hid (FdsAt.kept hf hal)
  have HB := Lib.hid hal
  clear hal hs hf
  have HK := Lib.hid ((Blk.new w 28 #[.string ⟨(fr).toArray⟩, .int .i64 tz, .int .i64 st, .int .i64 ti, .bool (bl), (.slice ps su.length zs), (.slice pf fd.length zf)]).alloc (.cells #[.int .i64 xt, .int .i64 xo, .int .i64 xi] 30))
  have hR := Blk.new (w.alloc (.cells #[.string ⟨(fr).toArray⟩, .int .i64 tz, .int .i64 st, .int .i64 ti, .bool (bl), (.slice ps su.length zs), (.slice pf fd.length zf)] 28)) 30 #[.int .i64 xt, .int .i64 xo, .int .i64 xi]
  rw [World.size_alloc] at hR
  have HX := Lib.hid hR; clear hR
  obtain ⟨k0, k1, k2, k3, k4, k5, k6, kf0, kf1, kf2, kf3, kf4, kf5, kf6⟩ := HK.out.c7
  obtain ⟨x0, x1, x2, xf0, xf1, xf2⟩ := HX.out.c3
  have haw := fun W (e : Env W) => l30_awake W e
  have how := fun W => l30_own tz st ti bl fr ps pf su.length zs fd.length zf W
  have hfe := fun W (h1 : SbsAt W (.slice ps su.length zs) su) (h2 : FdsAt W (.slice pf fd.length zf) fd) => r30_few tz st ti bl fr (.slice ps su.length zs) (.slice pf fd.length zf) su fd W h1 h2
  have HAW := Lib.hid haw; clear haw
  have HOW := Lib.hid how; clear how
  have HFE := Lib.hid hfe; clear hfe
  go_enter Tryz.func3, Tryz.ntmps3
  go_wp2_with (first | (with_reducible refine ((HOW.out _).mono ?_); rintro e w' ⟨rfl, hb⟩; replace HK := Lib.hid (HK.out.keep hb); clear k0 k1 k2 k3 k4 k5 k6 kf0 kf1 kf2 kf3 kf4 kf5 kf6; replace HX := Lib.hid (HX.out.keep hb); clear x0 x1 x2 xf0 xf1 xf2; replace HS := Lib.hid (SbsAt.kept HS.out hb); replace HF := Lib.hid (FdsAt.kept HF.out hb); replace HB := Lib.hid (bch' HB.out hb); clear hb; obtain ⟨k0, k1, k2, k3, k4, k5, k6, kf0, kf1, kf2, kf3, kf4, kf5, kf6⟩ := HK.out.c7; obtain ⟨x0, x1, x2, xf0, xf1, xf2⟩ := HX.out.c3))
  refine ((HFE.out _ HS.out HF.out).mono ?_)
  rintro e w2 ⟨b1, rfl, hq, hb⟩
  replace HK := Lib.hid (HK.out.keep hb); clear k0 k1 k2 k3 k4 k5 k6 kf0 kf1 kf2 kf3 kf4 kf5 kf6; replace HX := Lib.hid (HX.out.keep hb); clear x0 x1 x2 xf0 xf1 xf2; replace HS := Lib.hid (SbsAt.kept HS.out hb); replace HF := Lib.hid (FdsAt.kept HF.out hb); replace HB := Lib.hid (bch' HB.out hb); clear hb; obtain ⟨k0, k1, k2, k3, k4, k5, k6, kf0, kf1, kf2, kf3, kf4, kf5, kf6⟩ := HK.out.c7; obtain ⟨x0, x1, x2, xf0, xf1, xf2⟩ := HX.out.c3
  cases b1
  · go_wp2_with (first | (with_reducible refine ((HAW.out _ (ENV.out.below HB.out)).mono ?_); rintro e w' ⟨rfl, hb⟩; replace HK := Lib.hid (HK.out.keep hb); clear k0 k1 k2 k3 k4 k5 k6 kf0 kf1 kf2 kf3 kf4 kf5 kf6; replace HX := Lib.hid (HX.out.keep hb); clear x0 x1 x2 xf0 xf1 xf2; replace HS := Lib.hid (SbsAt.kept HS.out hb); replace HF := Lib.hid (FdsAt.kept HF.out hb); replace HB := Lib.hid (bch' HB.out hb); clear hb; obtain ⟨k0, k1, k2, k3, k4, k5, k6, kf0, kf1, kf2, kf3, kf4, kf5, kf6⟩ := HK.out.c7; obtain ⟨x0, x1, x2, xf0, xf1, xf2⟩ := HX.out.c3))
    go_ret
    exact ⟨rfl, HB.out⟩
  · obtain ⟨hx, hl⟩ := hq rfl
    clear hq
    obtain ⟨fr2, tz2, st2, ti2, b2, ps2, pf2, zs2, zf2, su2, fd2, m, hto, hfd, hsb2, hfd2, hof, hrf⟩ := g30_go tz st ti bl fr ps pf zs zf su fd xt xo xi hx hl
    have how2 := fun W => l30_own tz2 st2 ti2 b2 fr2 ps2 pf2 su2.length zs2 fd2.length zf2 W
    have hsa := fun W (h1 : SbsAt W (.slice ps su.length zs) su) (h2 : FdsAt W (.slice pf fd.length zf) fd) => r30_same tz2 st2 ti2 b2 fr2 (.slice ps2 su2.length zs2) (.slice pf2 fd2.length zf2) (.slice ps2 su2.length zs2) (.slice pf2 fd2.length zf2) su2 fd2 W (hsb2 W h1) (hfd2 W h2) (hsb2 W h1) (hfd2 W h2) hto (by omega)
    clear hto hfd hsb2 hfd2 hl
    have HOF := Lib.hid hof; clear hof
    have HRF := Lib.hid hrf; clear hrf
    have HOW2 := Lib.hid how2; clear how2
    have HSA := Lib.hid hsa; clear hsa
    go_upto_region 4 with (first | (with_reducible refine ((HOF.out _ HS.out HF.out (ENV.out.below HB.out)).mono ?_); rintro e w' ⟨rfl, hb⟩; replace HK := Lib.hid (HK.out.keep hb); clear k0 k1 k2 k3 k4 k5 k6 kf0 kf1 kf2 kf3 kf4 kf5 kf6; replace HX := Lib.hid (HX.out.keep hb); clear x0 x1 x2 xf0 xf1 xf2; replace HS := Lib.hid (SbsAt.kept HS.out hb); replace HF := Lib.hid (FdsAt.kept HF.out hb); replace HB := Lib.hid (bch' HB.out hb); clear hb; obtain ⟨k0, k1, k2, k3, k4, k5, k6, kf0, kf1, kf2, kf3, kf4, kf5, kf6⟩ := HK.out.c7; obtain ⟨x0, x1, x2, xf0, xf1, xf2⟩ := HX.out.c3))
    have HA := Lib.hid (Blk.new w' 28 #[.string ⟨(fr2).toArray⟩, .int .i64 tz2, .int .i64 st2, .int .i64 ti2, .bool (b2), .slice ps2 su2.length zs2, .slice pf2 fd2.length zf2])
    have HK2 := Lib.hid (HK.out.alloc (.cells #[.string ⟨(fr2).toArray⟩, .int .i64 tz2, .int .i64 st2, .int .i64 ti2, .bool (b2), .slice ps2 su2.length zs2, .slice pf2 fd2.length zf2] 28))
    have HX2 := Lib.hid (HX.out.alloc (.cells #[.string ⟨(fr2).toArray⟩, .int .i64 tz2, .int .i64 st2, .int .i64 ti2, .bool (b2), .slice ps2 su2.length zs2, .slice pf2 fd2.length zf2] 28))
    have HB2 := Lib.hid (HB.out.alloc HB.out.size (.cells #[.string ⟨(fr2).toArray⟩, .int .i64 tz2, .int .i64 st2, .int .i64 ti2, .bool (b2), .slice ps2 su2.length zs2, .slice pf2 fd2.length zf2] 28))
    clear k0 k1 k2 k3 k4 k5 k6 kf0 kf1 kf2 kf3 kf4 kf5 kf6; clear x0 x1 x2 xf0 xf1 xf2
    clear HK HX HB HS HF
    generalize w'.alloc (.cells #[.string ⟨(fr2).toArray⟩, .int .i64 tz2, .int .i64 st2, .int .i64 ti2, .bool (b2), .slice ps2 su2.length zs2, .slice pf2 fd2.length zf2] 28) = w4 at *
    generalize w'.heap.size = G5 at *
    have HK := HK2; have HX := HX2; have HB := HB2; clear HK2 HX2 HB2
    obtain ⟨SS, hSS⟩ : ∃ SS : World → Prop, ∀ W', SS W' ↔ (Below w.heap.size w W' ∧ Blk W' w.heap.size 28 #[.string ⟨(fr).toArray⟩, .int .i64 tz, .int .i64 st, .int .i64 ti, .bool (bl), (.slice ps su.length zs), (.slice pf fd.length zf)] ∧ Blk W' (w.heap.size + 1) 30 #[.int .i64 xt, .int .i64 xo, .int .i64 xi] ∧ Blk W' G5 28 #[.string ⟨(fr2).toArray⟩, .int .i64 tz2, .int .i64 st2, .int .i64 ti2, .bool (b2), .slice ps2 su2.length zs2, .slice pf2 fd2.length zf2]) := ⟨fun W' => Below w.heap.size w W' ∧ Blk W' w.heap.size 28 #[.string ⟨(fr).toArray⟩, .int .i64 tz, .int .i64 st, .int .i64 ti, .bool (bl), (.slice ps su.length zs), (.slice pf fd.length zf)] ∧ Blk W' (w.heap.size + 1) 30 #[.int .i64 xt, .int .i64 xo, .int .i64 xi] ∧ Blk W' G5 28 #[.string ⟨(fr2).toArray⟩, .int .i64 tz2, .int .i64 st2, .int .i64 ti2, .bool (b2), .slice ps2 su2.length zs2, .slice pf2 fd2.length zf2], fun _ => Iff.rfl⟩
    have HBO : Hid (∀ W', SS W' → (W'.cell? ⟨w.heap.size, 0, none⟩ = some (.string ⟨(fr).toArray⟩) ∧ W'.cell? ⟨w.heap.size, 1, none⟩ = some (.int .i64 tz) ∧ W'.cell? ⟨w.heap.size, 2, none⟩ = some (.int .i64 st) ∧ W'.cell? ⟨w.heap.size, 3, none⟩ = some (.int .i64 ti) ∧ W'.cell? ⟨w.heap.size, 4, none⟩ = some (.bool (bl)) ∧ W'.cell? ⟨w.heap.size, 5, none⟩ = some ((.slice ps su.length zs)) ∧ W'.cell? ⟨w.heap.size, 6, none⟩ = some ((.slice pf fd.length zf)) ∧ W'.cell? ⟨(w.heap.size + 1), 0, none⟩ = some (.int .i64 xt) ∧ W'.cell? ⟨(w.heap.size + 1), 1, none⟩ = some (.int .i64 xo) ∧ W'.cell? ⟨(w.heap.size + 1), 2, none⟩ = some (.int .i64 xi) ∧ SS W')) := Lib.hid fun W' hs => by obtain ⟨h1, h2, h3, h4⟩ := (hSS W').1 hs; exact ⟨h2.c7.1, h2.c7.2.1, h2.c7.2.2.1, h2.c7.2.2.2.1, h2.c7.2.2.2.2.1, h2.c7.2.2.2.2.2.1, h2.c7.2.2.2.2.2.2.1, h3.c3.1, h3.c3.2.1, h3.c3.2.2.1, hs⟩
    have HS1 : Hid (SS w4) := Lib.hid ((hSS _).2 ⟨HB.out, HK.out, HX.out, HA.out⟩)
    have HKE : Hid (∀ A B, SS A → Below A.heap.size A B → SS B) := Lib.hid fun A B hs hb => by obtain ⟨h1, h2, h3, h4⟩ := (hSS A).1 hs; exact (hSS B).2 ⟨bch' h1 hb, h2.keep hb, h3.keep hb, h4.keep hb⟩
    have HKD : Hid (∀ A, SS A → SS A.drew) := Lib.hid fun A h => HKE.out _ _ h ((Below.refl _ _).drew)
    have HKA : Hid (∀ A c, SS A → SS (A.alloc c)) := Lib.hid fun A c h => HKE.out _ _ h ((Below.refl _ _).alloc (Nat.le_refl _) _)
    have HSZ : Hid (∀ W, SS W → w.heap.size ≤ W.heap.size) := Lib.hid fun W hs => ((hSS W).1 hs).1.size
    have HSB : Hid (∀ W, SS W → SbsAt W (.slice ps su.length zs) su) := Lib.hid fun W hs => SbsAt.kept HS0.out ((hSS W).1 hs).1
    have HFB : Hid (∀ W, SS W → FdsAt W (.slice pf fd.length zf) fd) := Lib.hid fun W hs => FdsAt.kept HF0.out ((hSS W).1 hs).1
    have HSE : Hid (∀ (A : World) (n : Nat) (c : Array Value) (v0 v1 v2 v3 v4 v5 v6 : Value), SS A → w.heap.size ≤ n → Blk A n 32 c → SS (((((((A.setCell ⟨n, 0, none⟩ v0).setCell ⟨n, 1, none⟩ v1).setCell ⟨n, 2, none⟩ v2).setCell ⟨n, 3, none⟩ v3).setCell ⟨n, 4, none⟩ v4).setCell ⟨n, 5, none⟩ v5).setCell ⟨n, 6, none⟩ v6)) := Lib.hid fun A n c v0 v1 v2 v3 v4 v5 v6 hs hn hb => by obtain ⟨h1, h2, h3, h4⟩ := (hSS A).1 hs; exact (hSS _).2 ⟨bset7 h1 hn v0 v1 v2 v3 v4 v5 v6, h2.far7 (blk_ne h2 hb (by decide)) v0 v1 v2 v3 v4 v5 v6, h3.far7 (blk_ne h3 hb (by decide)) v0 v1 v2 v3 v4 v5 v6, h4.far7 (blk_ne h4 hb (by decide)) v0 v1 v2 v3 v4 v5 v6⟩
    have HFI : Hid (∀ A, SS A → Below w.heap.size w A ∧ Blk A G5 28 #[.string ⟨(fr2).toArray⟩, .int .i64 tz2, .int .i64 st2, .int .i64 ti2, .bool (b2), .slice ps2 su2.length zs2, .slice pf2 fd2.length zf2]) := Lib.hid fun A hs => ⟨((hSS A).1 hs).1, ((hSS A).1 hs).2.2.2⟩
    clear hSS HK HX HB HA
    go_cut [7, 8] (fun s7 s8 wx => ∃ n : Nat, s7 = .pointer (some ⟨n, 0, none⟩) ∧ s8 = .int .i64 m ∧ Hid (SS wx) ∧ Hid (Blk wx n 32 #[.string ⟨(fr2).toArray⟩, .int .i64 tz2, .int .i64 st2, .int .i64 ti2, .bool (b2), .slice ps2 su2.length zs2, .slice pf2 fd2.length zf2]))
    case first =>
      go_region_held3 (fun W' => W'.cell? ⟨w.heap.size, 0, none⟩ = some (.string ⟨(fr).toArray⟩) ∧ W'.cell? ⟨w.heap.size, 1, none⟩ = some (.int .i64 tz) ∧ W'.cell? ⟨w.heap.size, 2, none⟩ = some (.int .i64 st) ∧ W'.cell? ⟨w.heap.size, 3, none⟩ = some (.int .i64 ti) ∧ W'.cell? ⟨w.heap.size, 4, none⟩ = some (.bool (bl)) ∧ W'.cell? ⟨w.heap.size, 5, none⟩ = some ((.slice ps su.length zs)) ∧ W'.cell? ⟨w.heap.size, 6, none⟩ = some ((.slice pf fd.length zf)) ∧ W'.cell? ⟨(w.heap.size + 1), 0, none⟩ = some (.int .i64 xt) ∧ W'.cell? ⟨(w.heap.size + 1), 1, none⟩ = some (.int .i64 xo) ∧ W'.cell? ⟨(w.heap.size + 1), 2, none⟩ = some (.int .i64 xi) ∧ SS W') (with_reducible refine HBO.out _ ?_; ((repeat (first | with_reducible refine HSE.out _ _ _ _ _ _ _ _ _ _ ?_ HZ.1 HZ.2 | with_reducible refine HKE.out _ _ ?_ hb9 | with_reducible refine HKE.out _ _ ?_ hb8 | with_reducible refine HKA.out _ _ ?_ | with_reducible refine HKD.out _ ?_)); with_reducible exact HS1.out)) (first | (go_at_call 17; with_reducible refine (HOW.out _).mono ?_; rintro e w8 ⟨rfl, hb8⟩) | (go_at_call 20; with_reducible refine (HRF.out _ (HSB.out _ (by ((repeat (first | with_reducible refine HSE.out _ _ _ _ _ _ _ _ _ _ ?_ HZ.1 HZ.2 | with_reducible refine HKE.out _ _ ?_ hb9 | with_reducible refine HKE.out _ _ ?_ hb8 | with_reducible refine HKA.out _ _ ?_ | with_reducible refine HKD.out _ ?_)); with_reducible exact HS1.out))) (HFB.out _ (by ((repeat (first | with_reducible refine HSE.out _ _ _ _ _ _ _ _ _ _ ?_ HZ.1 HZ.2 | with_reducible refine HKE.out _ _ ?_ hb9 | with_reducible refine HKE.out _ _ ?_ hb8 | with_reducible refine HKA.out _ _ ?_ | with_reducible refine HKD.out _ ?_)); with_reducible exact HS1.out)))).mono ?_; rintro e w9 ⟨rfl, hb9⟩; first | (with_reducible refine use2 (And.intro (HSZ.out _ HS1.out) (Blk.keep (Blk.keep (Blk.drew (blk_newE rfl)) hb8) hb9) : w.heap.size ≤ w4.heap.size ∧ Blk w9 w4.heap.size 32 #[.string ⟨#[]⟩, .int .i64 0, .int .i64 0, .int .i64 0, .bool false, .slice none 0 0, .slice none 0 0]) (fun HZ => ?_); obtain ⟨y0, y1, y2, y3, y4, y5, y6, yf0, yf1, yf2, yf3, yf4, yf5, yf6⟩ := HZ.2.c7) | (with_reducible refine use2 (And.intro (HSZ.out _ (HKE.out _ _ (HKD.out _ HS1.out) hb8)) (Blk.keep (blk_newE rfl) hb9) : w.heap.size ≤ w8.heap.size ∧ Blk w9 w8.heap.size 32 #[.string ⟨#[]⟩, .int .i64 0, .int .i64 0, .int .i64 0, .bool false, .slice none 0 0, .slice none 0 0]) (fun HZ => ?_); obtain ⟨y0, y1, y2, y3, y4, y5, y6, yf0, yf1, yf2, yf3, yf4, yf5, yf6⟩ := HZ.2.c7) | skip))
      all_goals (go_wp2_with fail; go_meet; refine ⟨_, rfl, rfl, Lib.hid ?_, Lib.hid ?_⟩)
      all_goals first | ((repeat (first | with_reducible refine HSE.out _ _ _ _ _ _ _ _ _ _ ?_ HZ.1 HZ.2 | with_reducible refine HKE.out _ _ ?_ hb9 | with_reducible refine HKE.out _ _ ?_ hb8 | with_reducible refine HKA.out _ _ ?_ | with_reducible refine HKD.out _ ?_)); with_reducible exact HS1.out) | exact Blk.all7 HZ.2 _ _ _ _ _ _ _ | exact blk_newE rfl
    case rest =>
      obtain ⟨n, rfl, rfl, HSS, HN⟩ := hcut
      obtain ⟨hB, hA⟩ := HFI.out _ HSS.out
      have HB := Lib.hid hB; have HA := Lib.hid hA; clear hB hA
      have HS := Lib.hid (HSB.out _ HSS.out); have HF := Lib.hid (HFB.out _ HSS.out)
      clear HSS HFI HSE HFB HSB HSZ HKA HKD HKE HS1 HBO
      go_wp2_with fail
      have a0 := fun p : BelowOf _ => (HA.out.keep p.h).c7.1
      have a1 := fun p : BelowOf _ => (HA.out.keep p.h).c7.2.1
      have a2 := fun p : BelowOf _ => (HA.out.keep p.h).c7.2.2.1
      have a3 := fun p : BelowOf _ => (HA.out.keep p.h).c7.2.2.2.1
      have a4 := fun p : BelowOf _ => (HA.out.keep p.h).c7.2.2.2.2.1
      have a5 := fun p : BelowOf _ => (HA.out.keep p.h).c7.2.2.2.2.2.1
      have a6 := fun p : BelowOf _ => (HA.out.keep p.h).c7.2.2.2.2.2.2.1
      have n0 := fun p : BelowOf _ => (HN.out.keep p.h).c7.1
      have n1 := fun p : BelowOf _ => (HN.out.keep p.h).c7.2.1
      have n2 := fun p : BelowOf _ => (HN.out.keep p.h).c7.2.2.1
      have n3 := fun p : BelowOf _ => (HN.out.keep p.h).c7.2.2.2.1
      have n4 := fun p : BelowOf _ => (HN.out.keep p.h).c7.2.2.2.2.1
      have n5 := fun p : BelowOf _ => (HN.out.keep p.h).c7.2.2.2.2.2.1
      have n6 := fun p : BelowOf _ => (HN.out.keep p.h).c7.2.2.2.2.2.2.1
      refine wp_region_WQ (by kernel_rfl) (by kernel_rfl) ?_
      repeat (refine WQ.step (fun K hK => ?_); go_simp; first | (refine hK.out _ ?_; clear hK K) | (apply Exists.intro; refine ⟨fun _ => ?_, hK.out _ ?_⟩; (first | rfl | (go_at_call 18; exact calls_below_of _ (HAW.out _ (ENV.out.below (bch' HB.out (BelowOf.h _))))) | (go_at_call 17; exact calls_below_of _ (HOW2.out _)) | (go_at_call 21; exact calls_below_of _ (HSA.out _ (SbsAt.kept HS.out (BelowOf.h _)) (FdsAt.kept HF.out (BelowOf.h _))))); clear hK K))
      refine WQ.nil ?_
      intro _ hw'
      obtain ⟨⟨wq, hbq⟩, hw2⟩ := hw'
      subst hw2
      replace HB := Lib.hid (bch' HB.out hbq)
      clear a0 a1 a2 a3 a4 a5 a6 n0 n1 n2 n3 n4 n5 n6
      go_wp2_with fail
      go_ret
      exact ⟨rfl, HB.out⟩
end Go.Proofs.YtkjelfmgnkkijaaGreatDoor
