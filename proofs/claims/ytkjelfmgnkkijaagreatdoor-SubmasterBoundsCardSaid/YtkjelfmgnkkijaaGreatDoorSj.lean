/-
  The law SubmasterBounds.
-/
import Derived.Test.YtkjelfmgnkkijaaGreatDoorSi
set_option linter.unusedVariables false
set_option linter.unusedSimpArgs false
namespace Lum
open Go Go.RowKit Go.Shelf
open Go.Lib (decDigits itoa)
theorem bn_t {q : Bool} (h : false = !q) : q = true := by cases q <;> simp_all
theorem bn_f {q : Bool} (h : true = !q) : q = false := by cases q <;> simp_all
end Lum
namespace Go.Proofs.YtkjelfmgnkkijaaGreatDoor
open Go.RowKit Go.Shelf Lum
open Go.Lib (decDigits itoa)
attribute [local go_sem] bs_get bs_extract_end bs_extract_from bs_extract bs_append

set_option maxRecDepth 100000 in
set_option maxHeartbeats 16000000 in
theorem law_bounds26 (nu pr ch a t : Int) (inh : Bool) (gs : List Gn) (l : List Fdr) (gv lv : Value) (w : World) (hv : GnsAt w gv gs) (hl : FdsAt w lv l) (env : Env w) :
    Calls Tryz.prog 8 #[.agg #[.int .i64 nu, .int .i64 pr, .bool (inh), gv], lv, .agg #[.int .i64 ch, .int .i64 a, .int .i64 t]] w fun e w' => e = .returned (.bool (true)) ∧ Below w.heap.size w w' := by
  obtain ⟨pg, cg, rfl⟩ : ∃ pg cg, gv = .slice pg gs.length cg := by obtain ⟨pg, cg, e, -⟩ := hv; exact ⟨pg, cg, e⟩
  have ENV := Lib.hid env; clear env
  have hal := ((Below.refl w.heap.size w).alloc (Nat.le_refl _) (.cells #[.int .i64 nu, .int .i64 pr, .bool (inh), (.slice pg gs.length cg)] 58)).alloc (by simp) (.cells #[.int .i64 ch, .int .i64 a, .int .i64 t] 74)
  have HB := Lib.hid hal
  have HK := Lib.hid ((Blk.new w 58 #[.int .i64 nu, .int .i64 pr, .bool (inh), (.slice pg gs.length cg)]).alloc (.cells #[.int .i64 ch, .int .i64 a, .int .i64 t] 74))
  have hR := Blk.new (w.alloc (.cells #[.int .i64 nu, .int .i64 pr, .bool (inh), (.slice pg gs.length cg)] 58)) 74 #[.int .i64 ch, .int .i64 a, .int .i64 t]
  rw [World.size_alloc] at hR
  have HR := Lib.hid hR; clear hR
  obtain ⟨k0, k1, k2, k3, kf0, kf1, kf2, kf3⟩ := HK.out.c4
  obtain ⟨r0, r1, r2, rf0, rf1, rf2⟩ := HR.out.c3
  have HV0 := Lib.hid hv; have HL0 := Lib.hid hl
  have HV := Lib.hid (GnsAt.kept hv hal)
  have HL := Lib.hid (FdsAt.kept hl hal)
  clear hal hv hl
  have haw := fun W (e : Env W) => l26_awake W e
  have hfe := fun su sv W (h : SbsAt W sv su) => r26_few su sv W h
  have hff := fun W (h : FdsAt W lv l) => r26_fewfaders l lv W h
  have HAW := Lib.hid haw; clear haw
  have HFE := Lib.hid hfe; clear hfe
  have HFF := Lib.hid hff; clear hff
  go_enter Tryz.func8, Tryz.ntmps8
  go_wp2_with fail
  have HN := Lib.hid (blkN2 w (.cells #[.int .i64 nu, .int .i64 pr, .bool (inh), (.slice pg gs.length cg)] 58) (.cells #[.int .i64 ch, .int .i64 a, .int .i64 t] 74) 58 #[.int .i64 nu, .int .i64 pr, .bool (inh), (.slice pg gs.length cg)])
  generalize (w.alloc (.cells #[.int .i64 nu, .int .i64 pr, .bool (inh), (.slice pg gs.length cg)] 58)).alloc (.cells #[.int .i64 ch, .int .i64 a, .int .i64 t] 74) = w1 at *
  have hal := (Below.refl w1.heap.size w1).alloc (Nat.le_refl _) (.cells #[.int .i64 nu, .int .i64 pr, .bool (inh), (.slice pg gs.length cg)] 58)
  with_reducible refine ((HFE.out _ _ _ (sbs_one HN.out (GnsAt.kept HV.out hal))).mono ?_)
  rintro e w2 ⟨b1, rfl, -, hb⟩
  replace HK := Lib.hid ((HK.out.keep hal).keep hb)
  clear k0 k1 k2 k3 kf0 kf1 kf2 kf3
  replace HR := Lib.hid ((HR.out.keep hal).keep hb)
  clear r0 r1 r2 rf0 rf1 rf2
  replace HV := Lib.hid (GnsAt.kept (GnsAt.kept HV.out hal) hb)
  replace HL := Lib.hid (FdsAt.kept (FdsAt.kept HL.out hal) hb)
  replace HB := Lib.hid (bch' (bch' HB.out hal) hb)
  clear hal hb HN
  obtain ⟨k0, k1, k2, k3, kf0, kf1, kf2, kf3⟩ := HK.out.c4
  obtain ⟨r0, r1, r2, rf0, rf1, rf2⟩ := HR.out.c3
  cases b1
  · go_wp2_with (first | (with_reducible refine ((HAW.out _ (ENV.out.below HB.out)).mono ?_); rintro e w' ⟨rfl, hb⟩; replace HK := Lib.hid (HK.out.keep hb); clear k0 k1 k2 k3 kf0 kf1 kf2 kf3; replace HR := Lib.hid (HR.out.keep hb); clear r0 r1 r2 rf0 rf1 rf2; replace HV := Lib.hid (GnsAt.kept HV.out hb); replace HL := Lib.hid (FdsAt.kept HL.out hb); replace HB := Lib.hid (bch' HB.out hb); clear hb; obtain ⟨k0, k1, k2, k3, kf0, kf1, kf2, kf3⟩ := HK.out.c4; obtain ⟨r0, r1, r2, rf0, rf1, rf2⟩ := HR.out.c3))
    go_ret
    exact ⟨rfl, HB.out⟩
  · go_wp2_with fail
    refine ((HFF.out _ HL.out).mono ?_)
    rintro e w3 ⟨b2, rfl, hq, hb⟩
    replace HK := Lib.hid (HK.out.keep hb); clear k0 k1 k2 k3 kf0 kf1 kf2 kf3; replace HR := Lib.hid (HR.out.keep hb); clear r0 r1 r2 rf0 rf1 rf2; replace HV := Lib.hid (GnsAt.kept HV.out hb); replace HL := Lib.hid (FdsAt.kept HL.out hb); replace HB := Lib.hid (bch' HB.out hb); clear hb; obtain ⟨k0, k1, k2, k3, kf0, kf1, kf2, kf3⟩ := HK.out.c4; obtain ⟨r0, r1, r2, rf0, rf1, rf2⟩ := HR.out.c3
    cases b2
    · go_wp2_with (first | (with_reducible refine ((HAW.out _ (ENV.out.below HB.out)).mono ?_); rintro e w' ⟨rfl, hb⟩; replace HK := Lib.hid (HK.out.keep hb); clear k0 k1 k2 k3 kf0 kf1 kf2 kf3; replace HR := Lib.hid (HR.out.keep hb); clear r0 r1 r2 rf0 rf1 rf2; replace HV := Lib.hid (GnsAt.kept HV.out hb); replace HL := Lib.hid (FdsAt.kept HL.out hb); replace HB := Lib.hid (bch' HB.out hb); clear hb; obtain ⟨k0, k1, k2, k3, kf0, kf1, kf2, kf3⟩ := HK.out.c4; obtain ⟨r0, r1, r2, rf0, rf1, rf2⟩ := HR.out.c3))
      go_ret
      exact ⟨rfl, HB.out⟩
    · have hlen := hq rfl
      clear hq
      have hc := fun W (h : GnsAt W (.slice pg gs.length cg) gs) => r26_check nu pr inh gs (.slice pg gs.length cg) W h
      have hfs := fun W (h : FdsAt W lv l) => r26_faders l lv W h (fun i hi => Nat.le_trans (hlen i hi) (by omega))
      by_cases hs : subE nu pr inh gs = 0
      · rw [hs] at hc
        by_cases hf : facE l = 0
        · rw [hf] at hfs
          have HSU : Hid (sbE ⟨nu, pr, inh, gs⟩ = 0) := Lib.hid hs
          have HFA := Lib.hid hf; have HLEN := Lib.hid hlen
          have HFEW : Hid (gs.length ≤ 128) := Lib.hid (subOk HSU.out).few
          clear hs hf hlen
          have HC := Lib.hid hc; clear hc
          have HFS := Lib.hid hfs; clear hfs
          go_wp2_with (first | (with_reducible refine ((HC.out _ HV.out).mono ?_); rintro e w' ⟨rfl, hb⟩; replace HK := Lib.hid (HK.out.keep hb); clear k0 k1 k2 k3 kf0 kf1 kf2 kf3; replace HR := Lib.hid (HR.out.keep hb); clear r0 r1 r2 rf0 rf1 rf2; replace HV := Lib.hid (GnsAt.kept HV.out hb); replace HL := Lib.hid (FdsAt.kept HL.out hb); replace HB := Lib.hid (bch' HB.out hb); clear hb; obtain ⟨k0, k1, k2, k3, kf0, kf1, kf2, kf3⟩ := HK.out.c4; obtain ⟨r0, r1, r2, rf0, rf1, rf2⟩ := HR.out.c3) | (with_reducible refine ((HFS.out _ HL.out).mono ?_); rintro e w' ⟨rfl, hb⟩; replace HK := Lib.hid (HK.out.keep hb); clear k0 k1 k2 k3 kf0 kf1 kf2 kf3; replace HR := Lib.hid (HR.out.keep hb); clear r0 r1 r2 rf0 rf1 rf2; replace HV := Lib.hid (GnsAt.kept HV.out hb); replace HL := Lib.hid (FdsAt.kept HL.out hb); replace HB := Lib.hid (bch' HB.out hb); clear hb; obtain ⟨k0, k1, k2, k3, kf0, kf1, kf2, kf3⟩ := HK.out.c4; obtain ⟨r0, r1, r2, rf0, rf1, rf2⟩ := HR.out.c3))
          obtain ⟨w5, rfl⟩ : ∃ w5 : World, w5 = w' := ⟨_, rfl⟩
          have HK5 := HK
          have HR5 := HR
          have HV5 := HV
          have HL5 := HL
          have HB0 := HB
          clear k0 k1 k2 k3 kf0 kf1 kf2 kf3; clear r0 r1 r2 rf0 rf1 rf2
          clear HB HK HR HV HL
          have HB5 := Lib.hid (Below.refl w5.heap.size w5)
          go_loopw [39] (fun i wr => ∃ k r : Nat, i = .int .i64 (k : Int) ∧ Hid (k + r = gs.length) ∧ Hid (Below w5.heap.size w5 wr)) (fun i _ => gs.length - (intOf i).toNat)
          case atStart => exact ⟨0, gs.length, rfl, Lib.hid (by omega), HB5⟩
          case round =>
            obtain ⟨k, r, rfl, hkr, HB2⟩ := hrel
            clear HB5
            have HB5 := HB2; clear HB2
            have HB : Hid (Below w.heap.size w wr) := Lib.hid (bch' HB0.out HB5.out)
            have HK := Lib.hid (HK5.out.keep HB5.out)
            have HR := Lib.hid (HR5.out.keep HB5.out)
            have HV := Lib.hid (GnsAt.kept HV5.out HB5.out)
            have HL := Lib.hid (FdsAt.kept HL5.out HB5.out)
            obtain ⟨k0, k1, k2, k3, kf0, kf1, kf2, kf3⟩ := HK.out.c4
            obtain ⟨r0, r1, r2, rf0, rf1, rf2⟩ := HR.out.c3
            cases r with
            | zero =>
              have hlt : ¬ (k : Int) < ((gs.length : Nat) : Int) := by have := hkr.out; omega
              go_wp2_with (first | (with_reducible refine ((HAW.out _ (ENV.out.below HB.out)).mono ?_); rintro e w' ⟨rfl, hb⟩; replace HK := Lib.hid (HK.out.keep hb); clear k0 k1 k2 k3 kf0 kf1 kf2 kf3; replace HR := Lib.hid (HR.out.keep hb); clear r0 r1 r2 rf0 rf1 rf2; replace HV := Lib.hid (GnsAt.kept HV.out hb); replace HL := Lib.hid (FdsAt.kept HL.out hb); replace HB := Lib.hid (bch' HB.out hb); clear hb; obtain ⟨k0, k1, k2, k3, kf0, kf1, kf2, kf3⟩ := HK.out.c4; obtain ⟨r0, r1, r2, rf0, rf1, rf2⟩ := HR.out.c3))
              go_ret
              exact ⟨rfl, HB.out⟩
            | succ r =>
              have hkl : k < gs.length := by have := hkr.out; omega
              have hlt : (k : Int) < ((gs.length : Nat) : Int) := by omega
              have hun : IntKind.i64.wrap ((k : Int) + 1) = (k : Int) + 1 := IntWalk.i64_in _ (by have := HFEW.out; omega)
              obtain ⟨b, o, hpv, hb, hC⟩ : ∃ b o, pg = some ⟨b, o, none⟩ ∧ b < w.heap.size ∧ GnsC w b o gs := by
                obtain ⟨p, c, e, -, h2⟩ := HV0.out
                injection e with e1 e2 e3
                subst e1
                exact h2 (fun h => by subst h; exact absurd hkl (Nat.not_lt_zero _))
              subst hpv
              obtain ⟨x1, x2, x3⟩ := hC.below HB.out hb k hkl
              have hbr : b < wr.heap.size := by have := HB.out.size; omega
              clear hC hb
              have hal := (Below.refl wr.heap.size wr).alloc (Nat.le_refl _) (.cells #[.int .i64 ((gnv gs k).ch), .int .i64 ((gnv gs k).at_), .int .i64 ((gnv gs k).lev)] 85)
              replace HK := Lib.hid (HK.out.keep hal)
              replace HR := Lib.hid (HR.out.keep hal)
              replace HV := Lib.hid (GnsAt.kept HV.out hal)
              replace HL := Lib.hid (FdsAt.kept HL.out hal)
              replace HB := Lib.hid (bch' HB.out hal)
              replace HB5 := Lib.hid (bch' HB5.out hal)
              clear hal
              have HG := Lib.hid (Blk.new wr 85 #[.int .i64 ((gnv gs k).ch), .int .i64 ((gnv gs k).at_), .int .i64 ((gnv gs k).lev)])
              go_upto_region 6 with fail
              clear k0 k1 k2 k3 kf0 kf1 kf2 kf3; clear r0 r1 r2 rf0 rf1 rf2
              clear x1 x2 x3 hbr
              generalize wr.alloc (.cells #[.int .i64 ((gnv gs k).ch), .int .i64 ((gnv gs k).at_), .int .i64 ((gnv gs k).lev)] 85) = wg at *
              obtain ⟨k0, k1, k2, k3, kf0, kf1, kf2, kf3⟩ := HK.out.c4
              obtain ⟨r0, r1, r2, rf0, rf1, rf2⟩ := HR.out.c3
              obtain ⟨g0, g1, g2, gf0, gf1, gf2⟩ := HG.out.c3
              have hok := subOk HSU.out
              have fok := facOk HFA.out
              have hlen := HLEN.out
              obtain ⟨g0, g1⟩ := hok.lev k hkl
              dsimp only at g0 g1
              obtain ⟨r0, r1⟩ := lvlQ_range (nu := nu) (inh := inh) fok t
              have fl : Fits 182 (lvlQ nu inh l t) := fadL_fits t (fadG_fg fok) (fadG_len hlen)
              obtain ⟨c0, c1⟩ := sclQ_01 (s := ⟨nu, pr, inh, gs⟩) (gnv gs k).ch t hok fok
              have fc := sclQ_fits (s := ⟨nu, pr, inh, gs⟩) (ch := (gnv gs k).ch) t hok fok hlen
              have hoa := fun W (h1 : GnsAt W (.slice (some ⟨b, o, none⟩) gs.length cg) gs) (h2 : FdsAt W lv l) (e : Env W) => own_samount_ok nu pr (gnv gs k).ch (gnv gs k).at_ t inh gs l (.slice (some ⟨b, o, none⟩) gs.length cg) lv W h1 h2 HSU.out HFA.out hlen (hok.par k hkl) e
              obtain ⟨tv, ov, ham, hov1, hov2, hov3⟩ := bounds_am (t := t) hok fok hlen hkl
              rw [ham] at hoa
              dsimp only at hoa
              clear ham
              have hof := fun W (h1 : GnsAt W (.slice (some ⟨b, o, none⟩) gs.length cg) gs) (h2 : FdsAt W lv l) (e : Env W) => own_sfactor nu pr (gnv gs k).ch t inh gs l (.slice (some ⟨b, o, none⟩) gs.length cg) lv W h1 h2 HSU.out HFA.out hlen (parE_ch (hok.par k hkl)) e
              have hol := fun W (h1 : GnsAt W (.slice (some ⟨b, o, none⟩) gs.length cg) gs) (h2 : FdsAt W lv l) (e : Env W) => own_slev_ok nu pr t inh gs l (.slice (some ⟨b, o, none⟩) gs.length cg) lv W h1 h2 HSU.out HFA.out (fun i hi => Nat.le_trans (hlen i hi) (by omega)) e
              have hw2 := fun W => l26_within (sclQ ⟨nu, pr, inh, gs⟩ l (gnv gs k).ch t) 1 W (fc.mono (by omega)) (fits_1.mono (by omega)) c0 c1
              rw [show showR 1 = [49] by decide +kernel] at hw2
              have hw3 := fun W => l26_within (lvlQ nu inh l t) ((65535 : Int) : Rat) W (fl.mono (by omega)) (f65.mono (by omega)) r0 r1
              rw [k65] at hw3
              have hh1 := fun W => r2_whole (gnv gs k).lev W (by omega) (by omega)
              rw [← showR_int] at hh1
              have hh2 := fun W => r2_whole 65535 W (by omega) (by omega)
              rw [show itoa 65535 = [54, 53, 53, 51, 53] by decide +kernel] at hh2
              cases inh with
              | true =>
                obtain rfl := hov1 rfl
                clear hov1 hov2 hov3
                by_cases hful : (lvlQ nu true l t) = ((65535 : Int) : Rat)
                · have hl1 : (showR (lvlQ nu true l t) == [54, 53, 53, 51, 53]) = true := by rw [hful, k65]; decide
                  have hcc : showR (sclQ ⟨nu, pr, true, gs⟩ l (gnv gs k).ch t) = [49] := by rw [sclQ_full hful]; decide +kernel
                  have hc1 : (showR (sclQ ⟨nu, pr, true, gs⟩ l (gnv gs k).ch t) != [49]) = false := by rw [hcc]; rfl
                  have hc2 : (showR (sclQ ⟨nu, pr, true, gs⟩ l (gnv gs k).ch t) == [49]) = true := by rw [hcc]; rfl
                  clear hcc
                  clear hful
                  clear r0 r1 fl c0 c1 fc hok fok hlen g0 g1
                  generalize showR (lvlQ nu true l t) = tl at *
                  generalize showR (sclQ ⟨nu, pr, true, gs⟩ l (gnv gs k).ch t) = tc at *
                  generalize showR (((gnv gs k).lev : Int) : Rat) = tg at *
                  have HOA := Lib.hid hoa; clear hoa
                  have HOF := Lib.hid hof; clear hof
                  have HOL := Lib.hid hol; clear hol
                  have HW2 := Lib.hid hw2; clear hw2
                  have HW3 := Lib.hid hw3; clear hw3
                  have HH1 := Lib.hid hh1; clear hh1
                  have HH2 := Lib.hid hh2; clear hh2
                  go_wp2_with (first | (with_reducible refine ((HOA.out _ HV.out HL.out (ENV.out.below HB.out)).mono ?_); rintro e w' ⟨rfl, hb⟩; replace HK := Lib.hid (HK.out.keep hb); clear k0 k1 k2 k3 kf0 kf1 kf2 kf3; replace HR := Lib.hid (HR.out.keep hb); clear r0 r1 r2 rf0 rf1 rf2; replace HG := Lib.hid (HG.out.keep hb); clear g0 g1 g2 gf0 gf1 gf2; replace HV := Lib.hid (GnsAt.kept HV.out hb); replace HL := Lib.hid (FdsAt.kept HL.out hb); replace HB5 := Lib.hid (bch' HB5.out hb); replace HB := Lib.hid (bch' HB.out hb); clear hb; obtain ⟨k0, k1, k2, k3, kf0, kf1, kf2, kf3⟩ := HK.out.c4; obtain ⟨r0, r1, r2, rf0, rf1, rf2⟩ := HR.out.c3; obtain ⟨g0, g1, g2, gf0, gf1, gf2⟩ := HG.out.c3) | (with_reducible refine ((HOF.out _ HV.out HL.out (ENV.out.below HB.out)).mono ?_); rintro e w' ⟨rfl, hb⟩; replace HK := Lib.hid (HK.out.keep hb); clear k0 k1 k2 k3 kf0 kf1 kf2 kf3; replace HR := Lib.hid (HR.out.keep hb); clear r0 r1 r2 rf0 rf1 rf2; replace HG := Lib.hid (HG.out.keep hb); clear g0 g1 g2 gf0 gf1 gf2; replace HV := Lib.hid (GnsAt.kept HV.out hb); replace HL := Lib.hid (FdsAt.kept HL.out hb); replace HB5 := Lib.hid (bch' HB5.out hb); replace HB := Lib.hid (bch' HB.out hb); clear hb; obtain ⟨k0, k1, k2, k3, kf0, kf1, kf2, kf3⟩ := HK.out.c4; obtain ⟨r0, r1, r2, rf0, rf1, rf2⟩ := HR.out.c3; obtain ⟨g0, g1, g2, gf0, gf1, gf2⟩ := HG.out.c3) | (with_reducible refine ((HOL.out _ HV.out HL.out (ENV.out.below HB.out)).mono ?_); rintro e w' ⟨rfl, hb⟩; replace HK := Lib.hid (HK.out.keep hb); clear k0 k1 k2 k3 kf0 kf1 kf2 kf3; replace HR := Lib.hid (HR.out.keep hb); clear r0 r1 r2 rf0 rf1 rf2; replace HG := Lib.hid (HG.out.keep hb); clear g0 g1 g2 gf0 gf1 gf2; replace HV := Lib.hid (GnsAt.kept HV.out hb); replace HL := Lib.hid (FdsAt.kept HL.out hb); replace HB5 := Lib.hid (bch' HB5.out hb); replace HB := Lib.hid (bch' HB.out hb); clear hb; obtain ⟨k0, k1, k2, k3, kf0, kf1, kf2, kf3⟩ := HK.out.c4; obtain ⟨r0, r1, r2, rf0, rf1, rf2⟩ := HR.out.c3; obtain ⟨g0, g1, g2, gf0, gf1, gf2⟩ := HG.out.c3) | (with_reducible refine ((HW2.out _).mono ?_); rintro e w' ⟨rfl, hb⟩; replace HK := Lib.hid (HK.out.keep hb); clear k0 k1 k2 k3 kf0 kf1 kf2 kf3; replace HR := Lib.hid (HR.out.keep hb); clear r0 r1 r2 rf0 rf1 rf2; replace HG := Lib.hid (HG.out.keep hb); clear g0 g1 g2 gf0 gf1 gf2; replace HV := Lib.hid (GnsAt.kept HV.out hb); replace HL := Lib.hid (FdsAt.kept HL.out hb); replace HB5 := Lib.hid (bch' HB5.out hb); replace HB := Lib.hid (bch' HB.out hb); clear hb; obtain ⟨k0, k1, k2, k3, kf0, kf1, kf2, kf3⟩ := HK.out.c4; obtain ⟨r0, r1, r2, rf0, rf1, rf2⟩ := HR.out.c3; obtain ⟨g0, g1, g2, gf0, gf1, gf2⟩ := HG.out.c3) | (with_reducible refine ((HW3.out _).mono ?_); rintro e w' ⟨rfl, hb⟩; replace HK := Lib.hid (HK.out.keep hb); clear k0 k1 k2 k3 kf0 kf1 kf2 kf3; replace HR := Lib.hid (HR.out.keep hb); clear r0 r1 r2 rf0 rf1 rf2; replace HG := Lib.hid (HG.out.keep hb); clear g0 g1 g2 gf0 gf1 gf2; replace HV := Lib.hid (GnsAt.kept HV.out hb); replace HL := Lib.hid (FdsAt.kept HL.out hb); replace HB5 := Lib.hid (bch' HB5.out hb); replace HB := Lib.hid (bch' HB.out hb); clear hb; obtain ⟨k0, k1, k2, k3, kf0, kf1, kf2, kf3⟩ := HK.out.c4; obtain ⟨r0, r1, r2, rf0, rf1, rf2⟩ := HR.out.c3; obtain ⟨g0, g1, g2, gf0, gf1, gf2⟩ := HG.out.c3) | (with_reducible refine ((HH1.out _).mono ?_); rintro e w' ⟨rfl, hb⟩; replace HK := Lib.hid (HK.out.keep hb); clear k0 k1 k2 k3 kf0 kf1 kf2 kf3; replace HR := Lib.hid (HR.out.keep hb); clear r0 r1 r2 rf0 rf1 rf2; replace HG := Lib.hid (HG.out.keep hb); clear g0 g1 g2 gf0 gf1 gf2; replace HV := Lib.hid (GnsAt.kept HV.out hb); replace HL := Lib.hid (FdsAt.kept HL.out hb); replace HB5 := Lib.hid (bch' HB5.out hb); replace HB := Lib.hid (bch' HB.out hb); clear hb; obtain ⟨k0, k1, k2, k3, kf0, kf1, kf2, kf3⟩ := HK.out.c4; obtain ⟨r0, r1, r2, rf0, rf1, rf2⟩ := HR.out.c3; obtain ⟨g0, g1, g2, gf0, gf1, gf2⟩ := HG.out.c3) | (with_reducible refine ((HH2.out _).mono ?_); rintro e w' ⟨rfl, hb⟩; replace HK := Lib.hid (HK.out.keep hb); clear k0 k1 k2 k3 kf0 kf1 kf2 kf3; replace HR := Lib.hid (HR.out.keep hb); clear r0 r1 r2 rf0 rf1 rf2; replace HG := Lib.hid (HG.out.keep hb); clear g0 g1 g2 gf0 gf1 gf2; replace HV := Lib.hid (GnsAt.kept HV.out hb); replace HL := Lib.hid (FdsAt.kept HL.out hb); replace HB5 := Lib.hid (bch' HB5.out hb); replace HB := Lib.hid (bch' HB.out hb); clear hb; obtain ⟨k0, k1, k2, k3, kf0, kf1, kf2, kf3⟩ := HK.out.c4; obtain ⟨r0, r1, r2, rf0, rf1, rf2⟩ := HR.out.c3; obtain ⟨g0, g1, g2, gf0, gf1, gf2⟩ := HG.out.c3))
                  go_roundw
                  case rel => exact ⟨k + 1, r, by first | rfl | simp, Lib.hid (by have := hkr.out; omega), HB5⟩
                  case measure => first | (simp [intOf]; done) | (simp [intOf]; omega)
                · have hl1 : (showR (lvlQ nu true l t) == [54, 53, 53, 51, 53]) = false := by rw [beq_eq_false_iff_ne, ← k65]; exact fun h => hful (show_inj h)
                  clear hful
                  clear r0 r1 fl c0 c1 fc hok fok hlen g0 g1
                  generalize showR (lvlQ nu true l t) = tl at *
                  generalize showR (sclQ ⟨nu, pr, true, gs⟩ l (gnv gs k).ch t) = tc at *
                  generalize showR (((gnv gs k).lev : Int) : Rat) = tg at *
                  have HOA := Lib.hid hoa; clear hoa
                  have HOF := Lib.hid hof; clear hof
                  have HOL := Lib.hid hol; clear hol
                  have HW2 := Lib.hid hw2; clear hw2
                  have HW3 := Lib.hid hw3; clear hw3
                  have HH1 := Lib.hid hh1; clear hh1
                  have HH2 := Lib.hid hh2; clear hh2
                  go_wp2_with (first | (with_reducible refine ((HOA.out _ HV.out HL.out (ENV.out.below HB.out)).mono ?_); rintro e w' ⟨rfl, hb⟩; replace HK := Lib.hid (HK.out.keep hb); clear k0 k1 k2 k3 kf0 kf1 kf2 kf3; replace HR := Lib.hid (HR.out.keep hb); clear r0 r1 r2 rf0 rf1 rf2; replace HG := Lib.hid (HG.out.keep hb); clear g0 g1 g2 gf0 gf1 gf2; replace HV := Lib.hid (GnsAt.kept HV.out hb); replace HL := Lib.hid (FdsAt.kept HL.out hb); replace HB5 := Lib.hid (bch' HB5.out hb); replace HB := Lib.hid (bch' HB.out hb); clear hb; obtain ⟨k0, k1, k2, k3, kf0, kf1, kf2, kf3⟩ := HK.out.c4; obtain ⟨r0, r1, r2, rf0, rf1, rf2⟩ := HR.out.c3; obtain ⟨g0, g1, g2, gf0, gf1, gf2⟩ := HG.out.c3) | (with_reducible refine ((HOF.out _ HV.out HL.out (ENV.out.below HB.out)).mono ?_); rintro e w' ⟨rfl, hb⟩; replace HK := Lib.hid (HK.out.keep hb); clear k0 k1 k2 k3 kf0 kf1 kf2 kf3; replace HR := Lib.hid (HR.out.keep hb); clear r0 r1 r2 rf0 rf1 rf2; replace HG := Lib.hid (HG.out.keep hb); clear g0 g1 g2 gf0 gf1 gf2; replace HV := Lib.hid (GnsAt.kept HV.out hb); replace HL := Lib.hid (FdsAt.kept HL.out hb); replace HB5 := Lib.hid (bch' HB5.out hb); replace HB := Lib.hid (bch' HB.out hb); clear hb; obtain ⟨k0, k1, k2, k3, kf0, kf1, kf2, kf3⟩ := HK.out.c4; obtain ⟨r0, r1, r2, rf0, rf1, rf2⟩ := HR.out.c3; obtain ⟨g0, g1, g2, gf0, gf1, gf2⟩ := HG.out.c3) | (with_reducible refine ((HOL.out _ HV.out HL.out (ENV.out.below HB.out)).mono ?_); rintro e w' ⟨rfl, hb⟩; replace HK := Lib.hid (HK.out.keep hb); clear k0 k1 k2 k3 kf0 kf1 kf2 kf3; replace HR := Lib.hid (HR.out.keep hb); clear r0 r1 r2 rf0 rf1 rf2; replace HG := Lib.hid (HG.out.keep hb); clear g0 g1 g2 gf0 gf1 gf2; replace HV := Lib.hid (GnsAt.kept HV.out hb); replace HL := Lib.hid (FdsAt.kept HL.out hb); replace HB5 := Lib.hid (bch' HB5.out hb); replace HB := Lib.hid (bch' HB.out hb); clear hb; obtain ⟨k0, k1, k2, k3, kf0, kf1, kf2, kf3⟩ := HK.out.c4; obtain ⟨r0, r1, r2, rf0, rf1, rf2⟩ := HR.out.c3; obtain ⟨g0, g1, g2, gf0, gf1, gf2⟩ := HG.out.c3) | (with_reducible refine ((HW2.out _).mono ?_); rintro e w' ⟨rfl, hb⟩; replace HK := Lib.hid (HK.out.keep hb); clear k0 k1 k2 k3 kf0 kf1 kf2 kf3; replace HR := Lib.hid (HR.out.keep hb); clear r0 r1 r2 rf0 rf1 rf2; replace HG := Lib.hid (HG.out.keep hb); clear g0 g1 g2 gf0 gf1 gf2; replace HV := Lib.hid (GnsAt.kept HV.out hb); replace HL := Lib.hid (FdsAt.kept HL.out hb); replace HB5 := Lib.hid (bch' HB5.out hb); replace HB := Lib.hid (bch' HB.out hb); clear hb; obtain ⟨k0, k1, k2, k3, kf0, kf1, kf2, kf3⟩ := HK.out.c4; obtain ⟨r0, r1, r2, rf0, rf1, rf2⟩ := HR.out.c3; obtain ⟨g0, g1, g2, gf0, gf1, gf2⟩ := HG.out.c3) | (with_reducible refine ((HW3.out _).mono ?_); rintro e w' ⟨rfl, hb⟩; replace HK := Lib.hid (HK.out.keep hb); clear k0 k1 k2 k3 kf0 kf1 kf2 kf3; replace HR := Lib.hid (HR.out.keep hb); clear r0 r1 r2 rf0 rf1 rf2; replace HG := Lib.hid (HG.out.keep hb); clear g0 g1 g2 gf0 gf1 gf2; replace HV := Lib.hid (GnsAt.kept HV.out hb); replace HL := Lib.hid (FdsAt.kept HL.out hb); replace HB5 := Lib.hid (bch' HB5.out hb); replace HB := Lib.hid (bch' HB.out hb); clear hb; obtain ⟨k0, k1, k2, k3, kf0, kf1, kf2, kf3⟩ := HK.out.c4; obtain ⟨r0, r1, r2, rf0, rf1, rf2⟩ := HR.out.c3; obtain ⟨g0, g1, g2, gf0, gf1, gf2⟩ := HG.out.c3) | (with_reducible refine ((HH1.out _).mono ?_); rintro e w' ⟨rfl, hb⟩; replace HK := Lib.hid (HK.out.keep hb); clear k0 k1 k2 k3 kf0 kf1 kf2 kf3; replace HR := Lib.hid (HR.out.keep hb); clear r0 r1 r2 rf0 rf1 rf2; replace HG := Lib.hid (HG.out.keep hb); clear g0 g1 g2 gf0 gf1 gf2; replace HV := Lib.hid (GnsAt.kept HV.out hb); replace HL := Lib.hid (FdsAt.kept HL.out hb); replace HB5 := Lib.hid (bch' HB5.out hb); replace HB := Lib.hid (bch' HB.out hb); clear hb; obtain ⟨k0, k1, k2, k3, kf0, kf1, kf2, kf3⟩ := HK.out.c4; obtain ⟨r0, r1, r2, rf0, rf1, rf2⟩ := HR.out.c3; obtain ⟨g0, g1, g2, gf0, gf1, gf2⟩ := HG.out.c3) | (with_reducible refine ((HH2.out _).mono ?_); rintro e w' ⟨rfl, hb⟩; replace HK := Lib.hid (HK.out.keep hb); clear k0 k1 k2 k3 kf0 kf1 kf2 kf3; replace HR := Lib.hid (HR.out.keep hb); clear r0 r1 r2 rf0 rf1 rf2; replace HG := Lib.hid (HG.out.keep hb); clear g0 g1 g2 gf0 gf1 gf2; replace HV := Lib.hid (GnsAt.kept HV.out hb); replace HL := Lib.hid (FdsAt.kept HL.out hb); replace HB5 := Lib.hid (bch' HB5.out hb); replace HB := Lib.hid (bch' HB.out hb); clear hb; obtain ⟨k0, k1, k2, k3, kf0, kf1, kf2, kf3⟩ := HK.out.c4; obtain ⟨r0, r1, r2, rf0, rf1, rf2⟩ := HR.out.c3; obtain ⟨g0, g1, g2, gf0, gf1, gf2⟩ := HG.out.c3))
                  go_roundw
                  case rel => exact ⟨k + 1, r, by first | rfl | simp, Lib.hid (by have := hkr.out; omega), HB5⟩
                  case measure => first | (simp [intOf]; done) | (simp [intOf]; omega)
              | false =>
                have hcc : showR (sclQ ⟨nu, pr, false, gs⟩ l (gnv gs k).ch t) = [49] := by rw [sclQ_add rfl]; decide +kernel
                have hc1 : (showR (sclQ ⟨nu, pr, false, gs⟩ l (gnv gs k).ch t) != [49]) = false := by rw [hcc]; rfl
                have hc2 : (showR (sclQ ⟨nu, pr, false, gs⟩ l (gnv gs k).ch t) == [49]) = true := by rw [hcc]; rfl
                clear hcc
                cases ov with
                | false =>
                  have hz1 : (showR (lvlQ nu false l t) == [48]) = true := bn_t (hov2 rfl)
                  have hl1 : (showR (lvlQ nu false l t) == [54, 53, 53, 51, 53]) = false := by rw [beq_iff_eq] at hz1; rw [hz1]; decide
                  clear hov1 hov2 hov3
                  clear r0 r1 fl c0 c1 fc hok fok hlen g0 g1
                  generalize showR (lvlQ nu false l t) = tl at *
                  generalize showR (sclQ ⟨nu, pr, false, gs⟩ l (gnv gs k).ch t) = tc at *
                  generalize showR (((gnv gs k).lev : Int) : Rat) = tg at *
                  have HOA := Lib.hid hoa; clear hoa
                  have HOF := Lib.hid hof; clear hof
                  have HOL := Lib.hid hol; clear hol
                  have HW2 := Lib.hid hw2; clear hw2
                  have HW3 := Lib.hid hw3; clear hw3
                  have HH1 := Lib.hid hh1; clear hh1
                  have HH2 := Lib.hid hh2; clear hh2
                  go_wp2_with (first | (with_reducible refine ((HOA.out _ HV.out HL.out (ENV.out.below HB.out)).mono ?_); rintro e w' ⟨rfl, hb⟩; replace HK := Lib.hid (HK.out.keep hb); clear k0 k1 k2 k3 kf0 kf1 kf2 kf3; replace HR := Lib.hid (HR.out.keep hb); clear r0 r1 r2 rf0 rf1 rf2; replace HG := Lib.hid (HG.out.keep hb); clear g0 g1 g2 gf0 gf1 gf2; replace HV := Lib.hid (GnsAt.kept HV.out hb); replace HL := Lib.hid (FdsAt.kept HL.out hb); replace HB5 := Lib.hid (bch' HB5.out hb); replace HB := Lib.hid (bch' HB.out hb); clear hb; obtain ⟨k0, k1, k2, k3, kf0, kf1, kf2, kf3⟩ := HK.out.c4; obtain ⟨r0, r1, r2, rf0, rf1, rf2⟩ := HR.out.c3; obtain ⟨g0, g1, g2, gf0, gf1, gf2⟩ := HG.out.c3) | (with_reducible refine ((HOF.out _ HV.out HL.out (ENV.out.below HB.out)).mono ?_); rintro e w' ⟨rfl, hb⟩; replace HK := Lib.hid (HK.out.keep hb); clear k0 k1 k2 k3 kf0 kf1 kf2 kf3; replace HR := Lib.hid (HR.out.keep hb); clear r0 r1 r2 rf0 rf1 rf2; replace HG := Lib.hid (HG.out.keep hb); clear g0 g1 g2 gf0 gf1 gf2; replace HV := Lib.hid (GnsAt.kept HV.out hb); replace HL := Lib.hid (FdsAt.kept HL.out hb); replace HB5 := Lib.hid (bch' HB5.out hb); replace HB := Lib.hid (bch' HB.out hb); clear hb; obtain ⟨k0, k1, k2, k3, kf0, kf1, kf2, kf3⟩ := HK.out.c4; obtain ⟨r0, r1, r2, rf0, rf1, rf2⟩ := HR.out.c3; obtain ⟨g0, g1, g2, gf0, gf1, gf2⟩ := HG.out.c3) | (with_reducible refine ((HOL.out _ HV.out HL.out (ENV.out.below HB.out)).mono ?_); rintro e w' ⟨rfl, hb⟩; replace HK := Lib.hid (HK.out.keep hb); clear k0 k1 k2 k3 kf0 kf1 kf2 kf3; replace HR := Lib.hid (HR.out.keep hb); clear r0 r1 r2 rf0 rf1 rf2; replace HG := Lib.hid (HG.out.keep hb); clear g0 g1 g2 gf0 gf1 gf2; replace HV := Lib.hid (GnsAt.kept HV.out hb); replace HL := Lib.hid (FdsAt.kept HL.out hb); replace HB5 := Lib.hid (bch' HB5.out hb); replace HB := Lib.hid (bch' HB.out hb); clear hb; obtain ⟨k0, k1, k2, k3, kf0, kf1, kf2, kf3⟩ := HK.out.c4; obtain ⟨r0, r1, r2, rf0, rf1, rf2⟩ := HR.out.c3; obtain ⟨g0, g1, g2, gf0, gf1, gf2⟩ := HG.out.c3) | (with_reducible refine ((HW2.out _).mono ?_); rintro e w' ⟨rfl, hb⟩; replace HK := Lib.hid (HK.out.keep hb); clear k0 k1 k2 k3 kf0 kf1 kf2 kf3; replace HR := Lib.hid (HR.out.keep hb); clear r0 r1 r2 rf0 rf1 rf2; replace HG := Lib.hid (HG.out.keep hb); clear g0 g1 g2 gf0 gf1 gf2; replace HV := Lib.hid (GnsAt.kept HV.out hb); replace HL := Lib.hid (FdsAt.kept HL.out hb); replace HB5 := Lib.hid (bch' HB5.out hb); replace HB := Lib.hid (bch' HB.out hb); clear hb; obtain ⟨k0, k1, k2, k3, kf0, kf1, kf2, kf3⟩ := HK.out.c4; obtain ⟨r0, r1, r2, rf0, rf1, rf2⟩ := HR.out.c3; obtain ⟨g0, g1, g2, gf0, gf1, gf2⟩ := HG.out.c3) | (with_reducible refine ((HW3.out _).mono ?_); rintro e w' ⟨rfl, hb⟩; replace HK := Lib.hid (HK.out.keep hb); clear k0 k1 k2 k3 kf0 kf1 kf2 kf3; replace HR := Lib.hid (HR.out.keep hb); clear r0 r1 r2 rf0 rf1 rf2; replace HG := Lib.hid (HG.out.keep hb); clear g0 g1 g2 gf0 gf1 gf2; replace HV := Lib.hid (GnsAt.kept HV.out hb); replace HL := Lib.hid (FdsAt.kept HL.out hb); replace HB5 := Lib.hid (bch' HB5.out hb); replace HB := Lib.hid (bch' HB.out hb); clear hb; obtain ⟨k0, k1, k2, k3, kf0, kf1, kf2, kf3⟩ := HK.out.c4; obtain ⟨r0, r1, r2, rf0, rf1, rf2⟩ := HR.out.c3; obtain ⟨g0, g1, g2, gf0, gf1, gf2⟩ := HG.out.c3) | (with_reducible refine ((HH1.out _).mono ?_); rintro e w' ⟨rfl, hb⟩; replace HK := Lib.hid (HK.out.keep hb); clear k0 k1 k2 k3 kf0 kf1 kf2 kf3; replace HR := Lib.hid (HR.out.keep hb); clear r0 r1 r2 rf0 rf1 rf2; replace HG := Lib.hid (HG.out.keep hb); clear g0 g1 g2 gf0 gf1 gf2; replace HV := Lib.hid (GnsAt.kept HV.out hb); replace HL := Lib.hid (FdsAt.kept HL.out hb); replace HB5 := Lib.hid (bch' HB5.out hb); replace HB := Lib.hid (bch' HB.out hb); clear hb; obtain ⟨k0, k1, k2, k3, kf0, kf1, kf2, kf3⟩ := HK.out.c4; obtain ⟨r0, r1, r2, rf0, rf1, rf2⟩ := HR.out.c3; obtain ⟨g0, g1, g2, gf0, gf1, gf2⟩ := HG.out.c3) | (with_reducible refine ((HH2.out _).mono ?_); rintro e w' ⟨rfl, hb⟩; replace HK := Lib.hid (HK.out.keep hb); clear k0 k1 k2 k3 kf0 kf1 kf2 kf3; replace HR := Lib.hid (HR.out.keep hb); clear r0 r1 r2 rf0 rf1 rf2; replace HG := Lib.hid (HG.out.keep hb); clear g0 g1 g2 gf0 gf1 gf2; replace HV := Lib.hid (GnsAt.kept HV.out hb); replace HL := Lib.hid (FdsAt.kept HL.out hb); replace HB5 := Lib.hid (bch' HB5.out hb); replace HB := Lib.hid (bch' HB.out hb); clear hb; obtain ⟨k0, k1, k2, k3, kf0, kf1, kf2, kf3⟩ := HK.out.c4; obtain ⟨r0, r1, r2, rf0, rf1, rf2⟩ := HR.out.c3; obtain ⟨g0, g1, g2, gf0, gf1, gf2⟩ := HG.out.c3))
                  go_roundw
                  case rel => exact ⟨k + 1, r, by first | rfl | simp, Lib.hid (by have := hkr.out; omega), HB5⟩
                  case measure => first | (simp [intOf]; done) | (simp [intOf]; omega)
                | true =>
                  have hz1 : (showR (lvlQ nu false l t) == [48]) = false := bn_f (hov2 rfl)
                  obtain ⟨q, rfl, q0, q1, fq, qf⟩ := hov3 rfl
                  have hw1 := fun W => l26_within q (((gnv gs k).lev : Int) : Rat) W (fq.mono (by omega)) ((fits_lev g0 g1).mono (by omega)) q0 q1
                  by_cases hful : (lvlQ nu false l t) = ((65535 : Int) : Rat)
                  · have hl1 : (showR (lvlQ nu false l t) == [54, 53, 53, 51, 53]) = true := by rw [hful, k65]; decide
                    have hv1 : (showR q != showR (((gnv gs k).lev : Int) : Rat)) = false := by rw [qf hful]; simp
                    have hv2 : (showR q == showR (((gnv gs k).lev : Int) : Rat)) = true := by rw [qf hful]; simp
                    clear hful hov1 hov2 hov3 qf q0 q1 fq
                    clear r0 r1 fl c0 c1 fc hok fok hlen g0 g1
                    generalize showR (lvlQ nu false l t) = tl at *
                    generalize showR (sclQ ⟨nu, pr, false, gs⟩ l (gnv gs k).ch t) = tc at *
                    generalize showR (((gnv gs k).lev : Int) : Rat) = tg at *
                    generalize showR q = tv at *
                    have HOA := Lib.hid hoa; clear hoa
                    have HOF := Lib.hid hof; clear hof
                    have HOL := Lib.hid hol; clear hol
                    have HW2 := Lib.hid hw2; clear hw2
                    have HW3 := Lib.hid hw3; clear hw3
                    have HH1 := Lib.hid hh1; clear hh1
                    have HH2 := Lib.hid hh2; clear hh2
                    have HW1 := Lib.hid hw1; clear hw1
                    go_wp2_with (first | (with_reducible refine ((HOA.out _ HV.out HL.out (ENV.out.below HB.out)).mono ?_); rintro e w' ⟨rfl, hb⟩; replace HK := Lib.hid (HK.out.keep hb); clear k0 k1 k2 k3 kf0 kf1 kf2 kf3; replace HR := Lib.hid (HR.out.keep hb); clear r0 r1 r2 rf0 rf1 rf2; replace HG := Lib.hid (HG.out.keep hb); clear g0 g1 g2 gf0 gf1 gf2; replace HV := Lib.hid (GnsAt.kept HV.out hb); replace HL := Lib.hid (FdsAt.kept HL.out hb); replace HB5 := Lib.hid (bch' HB5.out hb); replace HB := Lib.hid (bch' HB.out hb); clear hb; obtain ⟨k0, k1, k2, k3, kf0, kf1, kf2, kf3⟩ := HK.out.c4; obtain ⟨r0, r1, r2, rf0, rf1, rf2⟩ := HR.out.c3; obtain ⟨g0, g1, g2, gf0, gf1, gf2⟩ := HG.out.c3) | (with_reducible refine ((HOF.out _ HV.out HL.out (ENV.out.below HB.out)).mono ?_); rintro e w' ⟨rfl, hb⟩; replace HK := Lib.hid (HK.out.keep hb); clear k0 k1 k2 k3 kf0 kf1 kf2 kf3; replace HR := Lib.hid (HR.out.keep hb); clear r0 r1 r2 rf0 rf1 rf2; replace HG := Lib.hid (HG.out.keep hb); clear g0 g1 g2 gf0 gf1 gf2; replace HV := Lib.hid (GnsAt.kept HV.out hb); replace HL := Lib.hid (FdsAt.kept HL.out hb); replace HB5 := Lib.hid (bch' HB5.out hb); replace HB := Lib.hid (bch' HB.out hb); clear hb; obtain ⟨k0, k1, k2, k3, kf0, kf1, kf2, kf3⟩ := HK.out.c4; obtain ⟨r0, r1, r2, rf0, rf1, rf2⟩ := HR.out.c3; obtain ⟨g0, g1, g2, gf0, gf1, gf2⟩ := HG.out.c3) | (with_reducible refine ((HOL.out _ HV.out HL.out (ENV.out.below HB.out)).mono ?_); rintro e w' ⟨rfl, hb⟩; replace HK := Lib.hid (HK.out.keep hb); clear k0 k1 k2 k3 kf0 kf1 kf2 kf3; replace HR := Lib.hid (HR.out.keep hb); clear r0 r1 r2 rf0 rf1 rf2; replace HG := Lib.hid (HG.out.keep hb); clear g0 g1 g2 gf0 gf1 gf2; replace HV := Lib.hid (GnsAt.kept HV.out hb); replace HL := Lib.hid (FdsAt.kept HL.out hb); replace HB5 := Lib.hid (bch' HB5.out hb); replace HB := Lib.hid (bch' HB.out hb); clear hb; obtain ⟨k0, k1, k2, k3, kf0, kf1, kf2, kf3⟩ := HK.out.c4; obtain ⟨r0, r1, r2, rf0, rf1, rf2⟩ := HR.out.c3; obtain ⟨g0, g1, g2, gf0, gf1, gf2⟩ := HG.out.c3) | (with_reducible refine ((HW2.out _).mono ?_); rintro e w' ⟨rfl, hb⟩; replace HK := Lib.hid (HK.out.keep hb); clear k0 k1 k2 k3 kf0 kf1 kf2 kf3; replace HR := Lib.hid (HR.out.keep hb); clear r0 r1 r2 rf0 rf1 rf2; replace HG := Lib.hid (HG.out.keep hb); clear g0 g1 g2 gf0 gf1 gf2; replace HV := Lib.hid (GnsAt.kept HV.out hb); replace HL := Lib.hid (FdsAt.kept HL.out hb); replace HB5 := Lib.hid (bch' HB5.out hb); replace HB := Lib.hid (bch' HB.out hb); clear hb; obtain ⟨k0, k1, k2, k3, kf0, kf1, kf2, kf3⟩ := HK.out.c4; obtain ⟨r0, r1, r2, rf0, rf1, rf2⟩ := HR.out.c3; obtain ⟨g0, g1, g2, gf0, gf1, gf2⟩ := HG.out.c3) | (with_reducible refine ((HW3.out _).mono ?_); rintro e w' ⟨rfl, hb⟩; replace HK := Lib.hid (HK.out.keep hb); clear k0 k1 k2 k3 kf0 kf1 kf2 kf3; replace HR := Lib.hid (HR.out.keep hb); clear r0 r1 r2 rf0 rf1 rf2; replace HG := Lib.hid (HG.out.keep hb); clear g0 g1 g2 gf0 gf1 gf2; replace HV := Lib.hid (GnsAt.kept HV.out hb); replace HL := Lib.hid (FdsAt.kept HL.out hb); replace HB5 := Lib.hid (bch' HB5.out hb); replace HB := Lib.hid (bch' HB.out hb); clear hb; obtain ⟨k0, k1, k2, k3, kf0, kf1, kf2, kf3⟩ := HK.out.c4; obtain ⟨r0, r1, r2, rf0, rf1, rf2⟩ := HR.out.c3; obtain ⟨g0, g1, g2, gf0, gf1, gf2⟩ := HG.out.c3) | (with_reducible refine ((HH1.out _).mono ?_); rintro e w' ⟨rfl, hb⟩; replace HK := Lib.hid (HK.out.keep hb); clear k0 k1 k2 k3 kf0 kf1 kf2 kf3; replace HR := Lib.hid (HR.out.keep hb); clear r0 r1 r2 rf0 rf1 rf2; replace HG := Lib.hid (HG.out.keep hb); clear g0 g1 g2 gf0 gf1 gf2; replace HV := Lib.hid (GnsAt.kept HV.out hb); replace HL := Lib.hid (FdsAt.kept HL.out hb); replace HB5 := Lib.hid (bch' HB5.out hb); replace HB := Lib.hid (bch' HB.out hb); clear hb; obtain ⟨k0, k1, k2, k3, kf0, kf1, kf2, kf3⟩ := HK.out.c4; obtain ⟨r0, r1, r2, rf0, rf1, rf2⟩ := HR.out.c3; obtain ⟨g0, g1, g2, gf0, gf1, gf2⟩ := HG.out.c3) | (with_reducible refine ((HH2.out _).mono ?_); rintro e w' ⟨rfl, hb⟩; replace HK := Lib.hid (HK.out.keep hb); clear k0 k1 k2 k3 kf0 kf1 kf2 kf3; replace HR := Lib.hid (HR.out.keep hb); clear r0 r1 r2 rf0 rf1 rf2; replace HG := Lib.hid (HG.out.keep hb); clear g0 g1 g2 gf0 gf1 gf2; replace HV := Lib.hid (GnsAt.kept HV.out hb); replace HL := Lib.hid (FdsAt.kept HL.out hb); replace HB5 := Lib.hid (bch' HB5.out hb); replace HB := Lib.hid (bch' HB.out hb); clear hb; obtain ⟨k0, k1, k2, k3, kf0, kf1, kf2, kf3⟩ := HK.out.c4; obtain ⟨r0, r1, r2, rf0, rf1, rf2⟩ := HR.out.c3; obtain ⟨g0, g1, g2, gf0, gf1, gf2⟩ := HG.out.c3) | (with_reducible refine ((HW1.out _).mono ?_); rintro e w' ⟨rfl, hb⟩; replace HK := Lib.hid (HK.out.keep hb); clear k0 k1 k2 k3 kf0 kf1 kf2 kf3; replace HR := Lib.hid (HR.out.keep hb); clear r0 r1 r2 rf0 rf1 rf2; replace HG := Lib.hid (HG.out.keep hb); clear g0 g1 g2 gf0 gf1 gf2; replace HV := Lib.hid (GnsAt.kept HV.out hb); replace HL := Lib.hid (FdsAt.kept HL.out hb); replace HB5 := Lib.hid (bch' HB5.out hb); replace HB := Lib.hid (bch' HB.out hb); clear hb; obtain ⟨k0, k1, k2, k3, kf0, kf1, kf2, kf3⟩ := HK.out.c4; obtain ⟨r0, r1, r2, rf0, rf1, rf2⟩ := HR.out.c3; obtain ⟨g0, g1, g2, gf0, gf1, gf2⟩ := HG.out.c3))
                    go_roundw
                    case rel => exact ⟨k + 1, r, by first | rfl | simp, Lib.hid (by have := hkr.out; omega), HB5⟩
                    case measure => first | (simp [intOf]; done) | (simp [intOf]; omega)
                  · have hl1 : (showR (lvlQ nu false l t) == [54, 53, 53, 51, 53]) = false := by rw [beq_eq_false_iff_ne, ← k65]; exact fun h => hful (show_inj h)
                    clear hful hov1 hov2 hov3 qf q0 q1 fq
                    clear r0 r1 fl c0 c1 fc hok fok hlen g0 g1
                    generalize showR (lvlQ nu false l t) = tl at *
                    generalize showR (sclQ ⟨nu, pr, false, gs⟩ l (gnv gs k).ch t) = tc at *
                    generalize showR (((gnv gs k).lev : Int) : Rat) = tg at *
                    generalize showR q = tv at *
                    have HOA := Lib.hid hoa; clear hoa
                    have HOF := Lib.hid hof; clear hof
                    have HOL := Lib.hid hol; clear hol
                    have HW2 := Lib.hid hw2; clear hw2
                    have HW3 := Lib.hid hw3; clear hw3
                    have HH1 := Lib.hid hh1; clear hh1
                    have HH2 := Lib.hid hh2; clear hh2
                    have HW1 := Lib.hid hw1; clear hw1
                    go_wp2_with (first | (with_reducible refine ((HOA.out _ HV.out HL.out (ENV.out.below HB.out)).mono ?_); rintro e w' ⟨rfl, hb⟩; replace HK := Lib.hid (HK.out.keep hb); clear k0 k1 k2 k3 kf0 kf1 kf2 kf3; replace HR := Lib.hid (HR.out.keep hb); clear r0 r1 r2 rf0 rf1 rf2; replace HG := Lib.hid (HG.out.keep hb); clear g0 g1 g2 gf0 gf1 gf2; replace HV := Lib.hid (GnsAt.kept HV.out hb); replace HL := Lib.hid (FdsAt.kept HL.out hb); replace HB5 := Lib.hid (bch' HB5.out hb); replace HB := Lib.hid (bch' HB.out hb); clear hb; obtain ⟨k0, k1, k2, k3, kf0, kf1, kf2, kf3⟩ := HK.out.c4; obtain ⟨r0, r1, r2, rf0, rf1, rf2⟩ := HR.out.c3; obtain ⟨g0, g1, g2, gf0, gf1, gf2⟩ := HG.out.c3) | (with_reducible refine ((HOF.out _ HV.out HL.out (ENV.out.below HB.out)).mono ?_); rintro e w' ⟨rfl, hb⟩; replace HK := Lib.hid (HK.out.keep hb); clear k0 k1 k2 k3 kf0 kf1 kf2 kf3; replace HR := Lib.hid (HR.out.keep hb); clear r0 r1 r2 rf0 rf1 rf2; replace HG := Lib.hid (HG.out.keep hb); clear g0 g1 g2 gf0 gf1 gf2; replace HV := Lib.hid (GnsAt.kept HV.out hb); replace HL := Lib.hid (FdsAt.kept HL.out hb); replace HB5 := Lib.hid (bch' HB5.out hb); replace HB := Lib.hid (bch' HB.out hb); clear hb; obtain ⟨k0, k1, k2, k3, kf0, kf1, kf2, kf3⟩ := HK.out.c4; obtain ⟨r0, r1, r2, rf0, rf1, rf2⟩ := HR.out.c3; obtain ⟨g0, g1, g2, gf0, gf1, gf2⟩ := HG.out.c3) | (with_reducible refine ((HOL.out _ HV.out HL.out (ENV.out.below HB.out)).mono ?_); rintro e w' ⟨rfl, hb⟩; replace HK := Lib.hid (HK.out.keep hb); clear k0 k1 k2 k3 kf0 kf1 kf2 kf3; replace HR := Lib.hid (HR.out.keep hb); clear r0 r1 r2 rf0 rf1 rf2; replace HG := Lib.hid (HG.out.keep hb); clear g0 g1 g2 gf0 gf1 gf2; replace HV := Lib.hid (GnsAt.kept HV.out hb); replace HL := Lib.hid (FdsAt.kept HL.out hb); replace HB5 := Lib.hid (bch' HB5.out hb); replace HB := Lib.hid (bch' HB.out hb); clear hb; obtain ⟨k0, k1, k2, k3, kf0, kf1, kf2, kf3⟩ := HK.out.c4; obtain ⟨r0, r1, r2, rf0, rf1, rf2⟩ := HR.out.c3; obtain ⟨g0, g1, g2, gf0, gf1, gf2⟩ := HG.out.c3) | (with_reducible refine ((HW2.out _).mono ?_); rintro e w' ⟨rfl, hb⟩; replace HK := Lib.hid (HK.out.keep hb); clear k0 k1 k2 k3 kf0 kf1 kf2 kf3; replace HR := Lib.hid (HR.out.keep hb); clear r0 r1 r2 rf0 rf1 rf2; replace HG := Lib.hid (HG.out.keep hb); clear g0 g1 g2 gf0 gf1 gf2; replace HV := Lib.hid (GnsAt.kept HV.out hb); replace HL := Lib.hid (FdsAt.kept HL.out hb); replace HB5 := Lib.hid (bch' HB5.out hb); replace HB := Lib.hid (bch' HB.out hb); clear hb; obtain ⟨k0, k1, k2, k3, kf0, kf1, kf2, kf3⟩ := HK.out.c4; obtain ⟨r0, r1, r2, rf0, rf1, rf2⟩ := HR.out.c3; obtain ⟨g0, g1, g2, gf0, gf1, gf2⟩ := HG.out.c3) | (with_reducible refine ((HW3.out _).mono ?_); rintro e w' ⟨rfl, hb⟩; replace HK := Lib.hid (HK.out.keep hb); clear k0 k1 k2 k3 kf0 kf1 kf2 kf3; replace HR := Lib.hid (HR.out.keep hb); clear r0 r1 r2 rf0 rf1 rf2; replace HG := Lib.hid (HG.out.keep hb); clear g0 g1 g2 gf0 gf1 gf2; replace HV := Lib.hid (GnsAt.kept HV.out hb); replace HL := Lib.hid (FdsAt.kept HL.out hb); replace HB5 := Lib.hid (bch' HB5.out hb); replace HB := Lib.hid (bch' HB.out hb); clear hb; obtain ⟨k0, k1, k2, k3, kf0, kf1, kf2, kf3⟩ := HK.out.c4; obtain ⟨r0, r1, r2, rf0, rf1, rf2⟩ := HR.out.c3; obtain ⟨g0, g1, g2, gf0, gf1, gf2⟩ := HG.out.c3) | (with_reducible refine ((HH1.out _).mono ?_); rintro e w' ⟨rfl, hb⟩; replace HK := Lib.hid (HK.out.keep hb); clear k0 k1 k2 k3 kf0 kf1 kf2 kf3; replace HR := Lib.hid (HR.out.keep hb); clear r0 r1 r2 rf0 rf1 rf2; replace HG := Lib.hid (HG.out.keep hb); clear g0 g1 g2 gf0 gf1 gf2; replace HV := Lib.hid (GnsAt.kept HV.out hb); replace HL := Lib.hid (FdsAt.kept HL.out hb); replace HB5 := Lib.hid (bch' HB5.out hb); replace HB := Lib.hid (bch' HB.out hb); clear hb; obtain ⟨k0, k1, k2, k3, kf0, kf1, kf2, kf3⟩ := HK.out.c4; obtain ⟨r0, r1, r2, rf0, rf1, rf2⟩ := HR.out.c3; obtain ⟨g0, g1, g2, gf0, gf1, gf2⟩ := HG.out.c3) | (with_reducible refine ((HH2.out _).mono ?_); rintro e w' ⟨rfl, hb⟩; replace HK := Lib.hid (HK.out.keep hb); clear k0 k1 k2 k3 kf0 kf1 kf2 kf3; replace HR := Lib.hid (HR.out.keep hb); clear r0 r1 r2 rf0 rf1 rf2; replace HG := Lib.hid (HG.out.keep hb); clear g0 g1 g2 gf0 gf1 gf2; replace HV := Lib.hid (GnsAt.kept HV.out hb); replace HL := Lib.hid (FdsAt.kept HL.out hb); replace HB5 := Lib.hid (bch' HB5.out hb); replace HB := Lib.hid (bch' HB.out hb); clear hb; obtain ⟨k0, k1, k2, k3, kf0, kf1, kf2, kf3⟩ := HK.out.c4; obtain ⟨r0, r1, r2, rf0, rf1, rf2⟩ := HR.out.c3; obtain ⟨g0, g1, g2, gf0, gf1, gf2⟩ := HG.out.c3) | (with_reducible refine ((HW1.out _).mono ?_); rintro e w' ⟨rfl, hb⟩; replace HK := Lib.hid (HK.out.keep hb); clear k0 k1 k2 k3 kf0 kf1 kf2 kf3; replace HR := Lib.hid (HR.out.keep hb); clear r0 r1 r2 rf0 rf1 rf2; replace HG := Lib.hid (HG.out.keep hb); clear g0 g1 g2 gf0 gf1 gf2; replace HV := Lib.hid (GnsAt.kept HV.out hb); replace HL := Lib.hid (FdsAt.kept HL.out hb); replace HB5 := Lib.hid (bch' HB5.out hb); replace HB := Lib.hid (bch' HB.out hb); clear hb; obtain ⟨k0, k1, k2, k3, kf0, kf1, kf2, kf3⟩ := HK.out.c4; obtain ⟨r0, r1, r2, rf0, rf1, rf2⟩ := HR.out.c3; obtain ⟨g0, g1, g2, gf0, gf1, gf2⟩ := HG.out.c3))
                    go_roundw
                    case rel => exact ⟨k + 1, r, by first | rfl | simp, Lib.hid (by have := hkr.out; omega), HB5⟩
                    case measure => first | (simp [intOf]; done) | (simp [intOf]; omega)
        · have hne : ((facE l : Int) != 0) = true := by simpa using hf
          clear hs hf hlen
          generalize facE l = m at *
          have HC := Lib.hid hc; clear hc
          have HFS := Lib.hid hfs; clear hfs
          go_wp2_with (first | (with_reducible refine ((HC.out _ HV.out).mono ?_); rintro e w' ⟨rfl, hb⟩; replace HK := Lib.hid (HK.out.keep hb); clear k0 k1 k2 k3 kf0 kf1 kf2 kf3; replace HR := Lib.hid (HR.out.keep hb); clear r0 r1 r2 rf0 rf1 rf2; replace HV := Lib.hid (GnsAt.kept HV.out hb); replace HL := Lib.hid (FdsAt.kept HL.out hb); replace HB := Lib.hid (bch' HB.out hb); clear hb; obtain ⟨k0, k1, k2, k3, kf0, kf1, kf2, kf3⟩ := HK.out.c4; obtain ⟨r0, r1, r2, rf0, rf1, rf2⟩ := HR.out.c3) | (with_reducible refine ((HFS.out _ HL.out).mono ?_); rintro e w' ⟨rfl, hb⟩; replace HK := Lib.hid (HK.out.keep hb); clear k0 k1 k2 k3 kf0 kf1 kf2 kf3; replace HR := Lib.hid (HR.out.keep hb); clear r0 r1 r2 rf0 rf1 rf2; replace HV := Lib.hid (GnsAt.kept HV.out hb); replace HL := Lib.hid (FdsAt.kept HL.out hb); replace HB := Lib.hid (bch' HB.out hb); clear hb; obtain ⟨k0, k1, k2, k3, kf0, kf1, kf2, kf3⟩ := HK.out.c4; obtain ⟨r0, r1, r2, rf0, rf1, rf2⟩ := HR.out.c3) | (with_reducible refine ((HAW.out _ (ENV.out.below HB.out)).mono ?_); rintro e w' ⟨rfl, hb⟩; replace HK := Lib.hid (HK.out.keep hb); clear k0 k1 k2 k3 kf0 kf1 kf2 kf3; replace HR := Lib.hid (HR.out.keep hb); clear r0 r1 r2 rf0 rf1 rf2; replace HV := Lib.hid (GnsAt.kept HV.out hb); replace HL := Lib.hid (FdsAt.kept HL.out hb); replace HB := Lib.hid (bch' HB.out hb); clear hb; obtain ⟨k0, k1, k2, k3, kf0, kf1, kf2, kf3⟩ := HK.out.c4; obtain ⟨r0, r1, r2, rf0, rf1, rf2⟩ := HR.out.c3))
          go_ret
          exact ⟨rfl, HB.out⟩
      · have hne : ((subE nu pr inh gs : Int) != 0) = true := by simpa using hs
        clear hs hlen
        generalize subE nu pr inh gs = m at *
        have HC := Lib.hid hc; clear hc
        have HFS := Lib.hid hfs; clear hfs
        go_wp2_with (first | (with_reducible refine ((HC.out _ HV.out).mono ?_); rintro e w' ⟨rfl, hb⟩; replace HK := Lib.hid (HK.out.keep hb); clear k0 k1 k2 k3 kf0 kf1 kf2 kf3; replace HR := Lib.hid (HR.out.keep hb); clear r0 r1 r2 rf0 rf1 rf2; replace HV := Lib.hid (GnsAt.kept HV.out hb); replace HL := Lib.hid (FdsAt.kept HL.out hb); replace HB := Lib.hid (bch' HB.out hb); clear hb; obtain ⟨k0, k1, k2, k3, kf0, kf1, kf2, kf3⟩ := HK.out.c4; obtain ⟨r0, r1, r2, rf0, rf1, rf2⟩ := HR.out.c3) | (with_reducible refine ((HAW.out _ (ENV.out.below HB.out)).mono ?_); rintro e w' ⟨rfl, hb⟩; replace HK := Lib.hid (HK.out.keep hb); clear k0 k1 k2 k3 kf0 kf1 kf2 kf3; replace HR := Lib.hid (HR.out.keep hb); clear r0 r1 r2 rf0 rf1 rf2; replace HV := Lib.hid (GnsAt.kept HV.out hb); replace HL := Lib.hid (FdsAt.kept HL.out hb); replace HB := Lib.hid (bch' HB.out hb); clear hb; obtain ⟨k0, k1, k2, k3, kf0, kf1, kf2, kf3⟩ := HK.out.c4; obtain ⟨r0, r1, r2, rf0, rf1, rf2⟩ := HR.out.c3))
        go_ret
        exact ⟨rfl, HB.out⟩
end Go.Proofs.YtkjelfmgnkkijaaGreatDoor
