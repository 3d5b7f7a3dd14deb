/-
  Submasters of the program: errors, Level, amount.
-/
import Derived.Test.YtkjelfmgnkkijaaGreatDoorSx
set_option linter.unusedVariables false
set_option linter.unusedSimpArgs false
namespace Lum
open Go Go.RowKit Go.Shelf
open Go.Lib (decDigits itoa)
/-- The error of a submaster and faders. -/
def gvE (s : Sb) (l : List Fdr) : Int := if sbE s ≠ 0 then sbE s else facE l
/-- What a right submaster gives: the text, and whether it gives something. -/
def amT (nu : Int) (inh : Bool) (gs : List Gn) (l : List Fdr) (ch a t : Int) : Txt × Bool :=
  match gnG gs ch a with
  | none => ([], false)
  | some g => if inh = true ∨ lvlQ nu inh l t = 0 then ([], false) else if a = 0 then (showR (lvlQ nu inh l t * Rat.divInt g 65535), true) else (showR ((g : Int) : Rat), true)
theorem amT_none {nu : Int} {inh : Bool} {gs : List Gn} {l : List Fdr} {ch a t : Int} (h : gnG gs ch a = none) : amT nu inh gs l ch a t = ([], false) := by unfold amT; rw [h]
theorem amT_zero {nu : Int} {inh : Bool} {gs : List Gn} {l : List Fdr} {ch a t g : Int} (h : gnG gs ch a = some g) (h2 : inh = true ∨ lvlQ nu inh l t = 0) : amT nu inh gs l ch a t = ([], false) := by unfold amT; rw [h]; simp only; rw [if_pos h2]
theorem amT_int {nu : Int} {inh : Bool} {gs : List Gn} {l : List Fdr} {ch a t g : Int} (h : gnG gs ch a = some g) (h2 : ¬ (inh = true ∨ lvlQ nu inh l t = 0)) (h3 : a = 0) : amT nu inh gs l ch a t = (showR (lvlQ nu inh l t * Rat.divInt g 65535), true) := by unfold amT; rw [h]; simp only; rw [if_neg h2, if_pos h3]
theorem amT_other {nu : Int} {inh : Bool} {gs : List Gn} {l : List Fdr} {ch a t g : Int} (h : gnG gs ch a = some g) (h2 : ¬ (inh = true ∨ lvlQ nu inh l t = 0)) (h3 : ¬ a = 0) : amT nu inh gs l ch a t = (showR ((g : Int) : Rat), true) := by unfold amT; rw [h]; simp only; rw [if_neg h2, if_neg h3]
theorem show_zero {q : Rat} : showR q = [48] ↔ q = 0 := by
  constructor
  · intro h
    rw [← showR_zero] at h
    have := congrArg valR h
    rwa [valR_showR, valR_showR] at this
  · intro h; rw [h, showR_zero]
end Lum
namespace Go.Proofs.YtkjelfmgnkkijaaGreatDoor
open Go.RowKit Go.Shelf Lum
open Go.Lib (decDigits itoa)
attribute [local go_sem] bs_get bs_extract_end bs_extract_from bs_extract bs_append

set_option maxRecDepth 100000 in
set_option maxHeartbeats 4000000 in
theorem own_slev_ok (nu pr t : Int) (inh : Bool) (gs : List Gn) (l : List Fdr) (gv lv : Value) (w : World) (hv : GnsAt w gv gs) (hl : FdsAt w lv l) (hs : sbE ⟨nu, pr, inh, gs⟩ = 0) (hf : facE l = 0) (hlen : ∀ i, i < l.length → (fdv l i).fr.length ≤ 1000) (env : Env w) :
    Calls Tryz.prog 34 #[.agg #[.int .i64 nu, .int .i64 pr, .bool (inh), gv], lv, .int .i64 t] w fun e w' => e = .returned (.tuple #[.string ⟨(showR (lvlQ nu inh l t)).toArray⟩, .int .i64 0]) ∧ Below w.heap.size w w' := by
  obtain ⟨pg, cg, rfl⟩ : ∃ pg cg, gv = .slice pg gs.length cg := by obtain ⟨pg, cg, e, -⟩ := hv; exact ⟨pg, cg, e⟩
  have ENV := Lib.hid env; clear env
  have hok : SubOk ⟨nu, pr, inh, gs⟩ := subOk hs
  have fok := facOk hf
  have hnew := fun W (h1 : GnsAt W (.slice pg gs.length cg) gs) (h2 : FdsAt W lv l) (e : Env W) => own_snew nu pr inh gs l (.slice pg gs.length cg) lv W h1 h2 hs hf hlen e
  have hg := fadG_fg (nu := nu) (inh := inh) fok
  have hx := fadG_lenK (nu := nu) (inh := inh) hlen
  unfold fgE at hg
  have hlv : ∀ (at_ : Int) (mv : Bool) W, Env W → Calls Tryz.prog 98 #[.agg #[.int .i64 nu, .int .i64 pr, .bool (inh), (.slice pg gs.length cg), .int .i64 ((fadG nu inh l).su), .string ⟨((fadG nu inh l).fr).toArray⟩, .int .i64 ((fadG nu inh l).tz), .int .i64 ((fadG nu inh l).st), .int .i64 ((fadG nu inh l).ti), .int .i64 ((fadG nu inh l).stp), .int .i64 at_, .bool (mv)], .int .i64 t] W fun e w' => e = .returned (.tuple #[.string ⟨(showR (lvlQ nu inh l t)).toArray⟩, .int .i64 0]) ∧ Below W.heap.size W w' := fun at_ mv W e => own_slevel nu pr inh (.slice pg gs.length cg) _ _ _ _ _ at_ t _ mv W hg (by omega) e
  clear hg hx
  have hal := (Below.refl w.heap.size w).alloc (Nat.le_refl _) (.cells #[.int .i64 nu, .int .i64 pr, .bool (inh), (.slice pg gs.length cg)] 58)
  have HV := Lib.hid (GnsAt.kept hv hal)
  have HL := Lib.hid (FdsAt.kept hl hal)
  have HB := Lib.hid hal; clear hal
  have HK := Lib.hid (Blk.new w 58 #[.int .i64 nu, .int .i64 pr, .bool (inh), (.slice pg gs.length cg)])
  obtain ⟨k0, k1, k2, k3, kf0, kf1, kf2, kf3⟩ := HK.out.c4
  clear hs hf hv hl hlen hok fok
  generalize showR (lvlQ nu inh l t) = tl at *
  have HNEW := Lib.hid hnew; clear hnew
  have HLV := Lib.hid hlv; clear hlv
  go_enter Tryz.func34, Tryz.ntmps34
  go_wp2_with fail
  refine ((HNEW.out _ HV.out HL.out (ENV.out.below HB.out)).mono ?_)
  rintro e w2 ⟨i, -, rfl, hb⟩
  generalize decide (i < l.length ∧ (fdv l i).su - nu = 0) = mv at *
  have hal := (Below.refl w2.heap.size w2).alloc (Nat.le_refl _) (.cells #[.int .i64 nu, .int .i64 pr, .bool (inh), (.slice pg gs.length cg), .int .i64 ((fadG nu inh l).su), .string ⟨((fadG nu inh l).fr).toArray⟩, .int .i64 ((fadG nu inh l).tz), .int .i64 ((fadG nu inh l).st), .int .i64 ((fadG nu inh l).ti), .int .i64 ((fadG nu inh l).stp), .int .i64 ((i : Int)), .bool (mv)] 157)
  replace HK := Lib.hid ((HK.out.keep hb).keep hal)
  replace HV := Lib.hid (GnsAt.kept (GnsAt.kept HV.out hb) hal)
  replace HL := Lib.hid (FdsAt.kept (FdsAt.kept HL.out hb) hal)
  replace HB := Lib.hid (bch' (bch' HB.out hb) hal)
  clear hb hal HNEW
  clear k0 k1 k2 k3 kf0 kf1 kf2 kf3
  obtain ⟨k0, k1, k2, k3, kf0, kf1, kf2, kf3⟩ := HK.out.c4
  have HX := Lib.hid (Blk.new w2 157 #[.int .i64 nu, .int .i64 pr, .bool (inh), (.slice pg gs.length cg), .int .i64 ((fadG nu inh l).su), .string ⟨((fadG nu inh l).fr).toArray⟩, .int .i64 ((fadG nu inh l).tz), .int .i64 ((fadG nu inh l).st), .int .i64 ((fadG nu inh l).ti), .int .i64 ((fadG nu inh l).stp), .int .i64 ((i : Int)), .bool (mv)])
  obtain ⟨x0, x1, x2, x3, x4, x5, x6, x7, x8, x9, x10, x11, xf0, xf1, xf2, xf3, xf4, xf5, xf6, xf7, xf8, xf9, xf10, xf11⟩ := HX.out.c12
  go_wp2_with (first | (with_reducible refine ((HLV.out _ _ _ (ENV.out.below HB.out)).mono ?_); rintro e w' ⟨rfl, hb⟩; replace HK := Lib.hid (HK.out.keep hb); clear k0 k1 k2 k3 kf0 kf1 kf2 kf3; replace HX := Lib.hid (HX.out.keep hb); clear x0 x1 x2 x3 x4 x5 x6 x7 x8 x9 x10 x11 xf0 xf1 xf2 xf3 xf4 xf5 xf6 xf7 xf8 xf9 xf10 xf11; replace HV := Lib.hid (GnsAt.kept HV.out hb); replace HL := Lib.hid (FdsAt.kept HL.out hb); replace HB := Lib.hid (bch' HB.out hb); clear hb; obtain ⟨k0, k1, k2, k3, kf0, kf1, kf2, kf3⟩ := HK.out.c4; obtain ⟨x0, x1, x2, x3, x4, x5, x6, x7, x8, x9, x10, x11, xf0, xf1, xf2, xf3, xf4, xf5, xf6, xf7, xf8, xf9, xf10, xf11⟩ := HX.out.c12))
  go_ret2
  exact ⟨rfl, HB.out⟩

set_option maxRecDepth 100000 in
set_option maxHeartbeats 4000000 in
theorem own_samt_int (nu pr su tz st ti stp at_ ch a g : Int) (inh mv : Bool) (gv : Value) (fr : Txt) (q : Rat) (w : World) (h0 : 0 ≤ g) (h1 : g ≤ 65535) (fq : Fits 2000 q) (ha : a = 0) (env : Env w) :
    Calls Tryz.prog 105 #[.agg #[.int .i64 nu, .int .i64 pr, .bool (inh), gv, .int .i64 su, .string ⟨(fr).toArray⟩, .int .i64 tz, .int .i64 st, .int .i64 ti, .int .i64 stp, .int .i64 at_, .bool (mv)], .agg #[.int .i64 ch, .int .i64 a], .int .i64 g, .string ⟨(showR q).toArray⟩] w fun e w' => e = .returned (.tuple #[.string ⟨(showR (q * Rat.divInt g 65535)).toArray⟩, .int .i64 0]) ∧ Below w.heap.size w w' := by
  have ENV := Lib.hid env; clear env
  have ha2 : ((a : Int) == 0) = true := by simpa using ha
  have hsh := fun W (e : Env W) => own_sshare g q W h0 h1 fq e
  clear h0 h1 fq ha
  generalize showR (q * Rat.divInt g 65535) = t2 at *
  generalize showR q = tq at *
  have HSH := Lib.hid hsh; clear hsh
  have HB := Lib.hid (((Below.refl w.heap.size w).alloc (Nat.le_refl _) (.cells #[.int .i64 nu, .int .i64 pr, .bool (inh), gv, .int .i64 su, .string ⟨(fr).toArray⟩, .int .i64 tz, .int .i64 st, .int .i64 ti, .int .i64 stp, .int .i64 at_, .bool (mv)] 157)).alloc (by simp) (.cells #[.int .i64 ch, .int .i64 a] 72))
  have hR := Blk.new (w.alloc (.cells #[.int .i64 nu, .int .i64 pr, .bool (inh), gv, .int .i64 su, .string ⟨(fr).toArray⟩, .int .i64 tz, .int .i64 st, .int .i64 ti, .int .i64 stp, .int .i64 at_, .bool (mv)] 157)) 72 #[.int .i64 ch, .int .i64 a]
  rw [World.size_alloc] at hR
  have HP := Lib.hid hR; clear hR
  obtain ⟨p0, p1, pf0, pf1⟩ := HP.out.c2
  go_enter Tryz.func105, Tryz.ntmps105
  go_wp2_with (first | (with_reducible refine ((HSH.out _ (ENV.out.below HB.out)).mono ?_); rintro e w' ⟨rfl, hb⟩; replace HP := Lib.hid (HP.out.keep hb); clear p0 p1 pf0 pf1; replace HB := Lib.hid (bch' HB.out hb); clear hb; obtain ⟨p0, p1, pf0, pf1⟩ := HP.out.c2))
  go_ret2
  exact ⟨rfl, HB.out⟩

set_option maxRecDepth 100000 in
set_option maxHeartbeats 4000000 in
theorem own_samt_other (nu pr su tz st ti stp at_ ch a g : Int) (inh mv : Bool) (gv : Value) (fr : Txt) (q : Rat) (w : World) (h0 : 0 ≤ g) (h1 : g ≤ 65535) (fq : Fits 2000 q) (ha : ¬ a = 0) (env : Env w) :
    Calls Tryz.prog 105 #[.agg #[.int .i64 nu, .int .i64 pr, .bool (inh), gv, .int .i64 su, .string ⟨(fr).toArray⟩, .int .i64 tz, .int .i64 st, .int .i64 ti, .int .i64 stp, .int .i64 at_, .bool (mv)], .agg #[.int .i64 ch, .int .i64 a], .int .i64 g, .string ⟨(showR q).toArray⟩] w fun e w' => e = .returned (.tuple #[.string ⟨(showR ((g : Int) : Rat)).toArray⟩, .int .i64 0]) ∧ Below w.heap.size w w' := by
  have ENV := Lib.hid env; clear env
  have ha2 : ((a : Int) == 0) = false := by simpa using ha
  have hw := fun W (e : Env W) => own_whole g W (by omega) (by omega) e
  rw [← showR_int] at hw
  clear h0 h1 fq ha
  generalize showR ((g : Int) : Rat) = t2 at *
  generalize showR q = tq at *
  have HW := Lib.hid hw; clear hw
  have HB := Lib.hid (((Below.refl w.heap.size w).alloc (Nat.le_refl _) (.cells #[.int .i64 nu, .int .i64 pr, .bool (inh), gv, .int .i64 su, .string ⟨(fr).toArray⟩, .int .i64 tz, .int .i64 st, .int .i64 ti, .int .i64 stp, .int .i64 at_, .bool (mv)] 157)).alloc (by simp) (.cells #[.int .i64 ch, .int .i64 a] 72))
  have hR := Blk.new (w.alloc (.cells #[.int .i64 nu, .int .i64 pr, .bool (inh), gv, .int .i64 su, .string ⟨(fr).toArray⟩, .int .i64 tz, .int .i64 st, .int .i64 ti, .int .i64 stp, .int .i64 at_, .bool (mv)] 157)) 72 #[.int .i64 ch, .int .i64 a]
  rw [World.size_alloc] at hR
  have HP := Lib.hid hR; clear hR
  obtain ⟨p0, p1, pf0, pf1⟩ := HP.out.c2
  go_enter Tryz.func105, Tryz.ntmps105
  go_wp2_with (first | (with_reducible refine ((HW.out _ (ENV.out.below HB.out)).mono ?_); rintro e w' ⟨rfl, hb⟩; replace HP := Lib.hid (HP.out.keep hb); clear p0 p1 pf0 pf1; replace HB := Lib.hid (bch' HB.out hb); clear hb; obtain ⟨p0, p1, pf0, pf1⟩ := HP.out.c2))
  go_ret2
  exact ⟨rfl, HB.out⟩
end Go.Proofs.YtkjelfmgnkkijaaGreatDoor
