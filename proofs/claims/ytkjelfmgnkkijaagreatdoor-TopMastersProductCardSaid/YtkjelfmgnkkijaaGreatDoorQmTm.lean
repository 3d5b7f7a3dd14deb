/-
  Top 15: playFaders. The law TopMastersProduct.
-/
import Derived.Test.YtkjelfmgnkkijaaGreatDoorQmSe
import Derived.Test.YtkjelfmgnkkijaaGreatDoorQmMu
import Derived.Test.YtkjelfmgnkkijaaGreatDoorQmFu
import Derived.Outline
set_option linter.unusedVariables false
set_option linter.unusedSimpArgs false
namespace Go.Proofs.YtkjelfmgnkkijaaGreatDoor
open Go.RowKit Go.Shelf Lum
open Go.Lib (decDigits itoa)
attribute [local go_sem] bs_get bs_extract_end bs_extract_from bs_extract bs_append

set_option maxRecDepth 100000 in
set_option maxHeartbeats 8000000 in
theorem l15_play (w : World) (env : Env w) :
    Calls Tryz.prog 71 #[] w fun e w' => e = .returned (.bool (true)) ∧ Below w.heap.size w w' := by
  have ENV := Lib.hid env; clear env
  have HB := Lib.hid (Below.refl w.heap.size w)
  have hfr := fun W => l26_front W
  have HFR := Lib.hid hfr; clear hfr
  go_enter Tryz.func71, Tryz.ntmps71
  go_wp2_with fail
  refine ((HFR.out _).mono ?_)
  rintro e w1 ⟨gv1, rfl, hg1, hb⟩
  have HG1 := Lib.hid hg1; clear hg1
  replace HB := Lib.hid (bch' HB.out hb); clear hb
  go_wp2_with fail
  refine ((own_smove_new 3 0 0 13107 0 false frontG [] gv1 (.slice none 0 0) 0 _ HG1.out (fds_nil _) (by decide +kernel) (by decide +kernel) (fun i h => absurd h (Nat.not_lt_zero i)) (by decide) belongs_nil (by decide) (ENV.out.below HB.out)).mono ?_)
  rw [show insL [] 0 false (mvF 3 false [] 0 13107 0 false) = [⟨3, [48], 13107, 0, 0, 0⟩] by decide +kernel]
  rintro e w2 ⟨pp2, cc2, rfl, ho2, hb⟩
  have HL2 := Lib.hid (OwnR.fds ho2); clear ho2
  replace HG1 := Lib.hid (GnsAt.kept HG1.out hb)
  replace HB := Lib.hid (bch' HB.out hb); clear hb
  go_wp2_with fail
  clear HG1
  refine ((HFR.out _).mono ?_)
  rintro e w3 ⟨gv3, rfl, hg3, hb⟩
  replace HL2 := Lib.hid (FdsAt.kept HL2.out hb)
  have HG3 := Lib.hid hg3; clear hg3
  replace HB := Lib.hid (bch' HB.out hb); clear hb
  go_wp2_with fail
  refine ((own_samount_ok 3 0 1 0 5 false frontG [⟨3, [48], 13107, 0, 0, 0⟩] gv3 (.slice pp2 1 cc2) _ HG3.out HL2.out (by decide +kernel) (by decide +kernel) (fdN_len (.inr (.inl ⟨3, 13107, rfl⟩))) (by decide) (ENV.out.below HB.out)).mono ?_)
  rw [show amT 3 false frontG [⟨3, [48], 13107, 0, 0, 0⟩] 1 0 5 = ([56, 48, 48, 48], true) by decide +kernel]
  dsimp only
  rintro e w4 ⟨rfl, hb⟩
  replace HL2 := Lib.hid (FdsAt.kept HL2.out hb)
  replace HG3 := Lib.hid (GnsAt.kept HG3.out hb)
  replace HB := Lib.hid (bch' HB.out hb); clear hb
  go_wp2_with fail
  clear HG3 HL2
  refine ((own_mapply 0 [56, 48, 48, 48] [49, 47, 50] 6 6 _ (by decide) (by decide) (fun q h => by have h2 := congrArg valR h; rw [valR_showR] at h2; rw [← h2]; unfold Fits; decide +kernel) (fun q h => by have h2 := congrArg valR h; rw [valR_showR] at h2; rw [← h2]; unfold Fits; decide +kernel) (by omega) (ENV.out.below HB.out)).mono ?_)
  rw [show apT [56, 48, 48, 48] [49, 47, 50] 0 = ([52, 48, 48, 48], 0) by decide +kernel]
  dsimp only
  rintro e w5 ⟨rfl, hb⟩
  replace HB := Lib.hid (bch' HB.out hb); clear hb
  go_wp2_with fail
  go_ret
  exact ⟨rfl, HB.out⟩
end Go.Proofs.YtkjelfmgnkkijaaGreatDoor
namespace Lum
open Go Go.RowKit Go.Shelf
open Go.Lib (decDigits itoa)
/-- The sources up to place j but for one. -/
def othP (S : List (Int × Int)) (x : Int × Int) (j : Nat) : List (Int × Int) := (S.take j).filter fun y => !(y == x)
theorem othP_same {S : List (Int × Int)} {x : Int × Int} {j : Nat} (h : j < S.length) (e : (pX S j, pY S j) = x) : othP S x (j + 1) = othP S x j := by
  unfold othP
  rw [← pt_take h, List.filter_append, List.filter_cons_of_neg (by rw [e]; simp)]
  simp
theorem othP_other {S : List (Int × Int)} {x : Int × Int} {j : Nat} (h : j < S.length) (e : (pX S j, pY S j) ≠ x) : othP S x (j + 1) = othP S x j ++ [(pX S j, pY S j)] := by
  unfold othP
  rw [← pt_take h, List.filter_append, List.filter_cons_of_pos (by simpa using e)]
  rfl
theorem othP_end (S : List (Int × Int)) (x : Int × Int) : othP S x S.length = othL S x := by unfold othP othL; rw [List.take_length]
theorem othP_not {S : List (Int × Int)} (hn : S.Nodup) {x : Int × Int} {j : Nat} (h : j < S.length) : (pX S j, pY S j) ∉ othP S x j := fun hm => by
  unfold othP at hm
  obtain ⟨i, hi, e⟩ := List.getElem_of_mem (List.mem_filter.1 hm).1
  rw [List.length_take] at hi
  rw [List.getElem_take, ← pt_at h] at e
  exact List.pairwise_iff_getElem.1 hn i j (by omega) h (by omega) e
theorem onE_b (xs : List (Int × Int)) {fr : Txt} {tz st ti : Int} {su : List Sb} {fd : List Fdr} {ch : Int} (h : onE fr tz st ti su fd ch = 0) : onE (aFr xs fr) (aTo xs tz) (aZe xs st) (aZe xs ti) (aSu xs su) fd ch = 0 := by
  obtain ⟨h1, h2, h3⟩ := onE_zero h
  exact onE_ok (aMa xs h1) (by omega)
end Lum
namespace Go.Proofs.YtkjelfmgnkkijaaGreatDoor
open Go.RowKit Go.Shelf Lum
open Go.Lib (decDigits itoa)
attribute [local go_sem] bs_get bs_extract_end bs_extract_from bs_extract bs_append

theorem eql_src (W : World) (a b c d : Int) : (binOp .eql 43 (.agg #[.int .i64 a, .int .i64 b]) (.agg #[.int .i64 c, .int .i64 d])).run Tryz.prog W = .ok (.bool ((a == c) && (b == d))) W := by
  have h1 : Tryz.prog.underlying 43 = some (.struct (Tryz.prog.fieldsOf 43)) := by kernel_rfl
  have h2 : Tryz.prog.stoodInHeld 43 = false := by kernel_rfl
  rw [run_eql_struct, run_equalIn_agg W 9999 _ _ _ h1 h2]
  have hf := TypeDesc.struct.inj (Option.some.inj (h1.symm.trans Tryz.underlying43))
  rw [hf]
  simp [Op.eqFields, go_sem, Tryz.underlying3]
  by_cases e1 : a = c
  · by_cases e2 : b = d
    · simp [e1, e2]
    · simp [e1, e2]
  · simp [e1]

set_option maxRecDepth 100000 in
set_option maxHeartbeats 16000000 in
theorem law_tmasters (fr : Txt) (tz st ti : Int) (bl : Bool) (sv fv : Value) (su : List Sb) (fd : List Fdr) (ch : Int) (t : Int) (w : World) (hl0 : fr.length ≤ 9223372036854775807) (hs : SbsAt w sv su) (hf : FdsAt w fv fd) (ch0 : -9223372036854775808 ≤ ch) (ch1 : ch ≤ 9223372036854775807) (t0 : -9223372036854775808 ≤ t) (t1 : t ≤ 9223372036854775807) (env : Env w) :
    Calls Tryz.prog 15 #[.agg #[.string ⟨(fr).toArray⟩, .int .i64 tz, .int .i64 st, .int .i64 ti, .bool (bl), sv, fv], .int .i64 ch, .int .i64 t] w fun e w' => e = .returned (.bool (true)) ∧ Below w.heap.size w w' := by
  obtain ⟨ps, zs, rfl⟩ : ∃ ps zs, sv = .slice ps su.length zs := by obtain ⟨a, b, e, -⟩ := hs; exact ⟨a, b, e⟩
  obtain ⟨pf, zf, rfl⟩ : ∃ pf zf, fv = .slice pf fd.length zf := by obtain ⟨a, b, e, -⟩ := hf; exact ⟨a, b, e⟩
  have ENV := Lib.hid env; clear env
  have HS0 := Lib.hid hs
  have HF0 := Lib.hid hf
  have hal := (Below.refl w.heap.size w).alloc (Nat.le_refl _) (.cells #[.string ⟨(fr).toArray⟩, .int .i64 tz, .int .i64 st, .int .i64 ti, .bool (bl), (.slice ps su.length zs), (.slice pf fd.length zf)] 28)
  have HS := Lib.hid (SbsAt.kept hs hal)
  have HF := Lib.hid (FdsAt.kept hf hal)
  have HB := Lib.hid hal
  clear hal hs hf
  have HK := Lib.hid (Blk.new w 28 #[.string ⟨(fr).toArray⟩, .int .i64 tz, .int .i64 st, .int .i64 ti, .bool (bl), (.slice ps su.length zs), (.slice pf fd.length zf)])
  obtain ⟨k0, k1, k2, k3, k4, k5, k6, kf0, kf1, kf2, kf3, kf4, kf5, kf6⟩ := HK.out.c7
  have haw := fun W (e : Env W) => l15_play W e
  have hfe := fun W (h1 : SbsAt W (.slice ps su.length zs) su) (h2 : FdsAt W (.slice pf fd.length zf) fd) => r30_few tz st ti bl fr (.slice ps su.length zs) (.slice pf fd.length zf) su fd W h1 h2
  have HAW := Lib.hid haw; clear haw
  have HFE := Lib.hid hfe; clear hfe
  go_enter Tryz.func15, Tryz.ntmps15
  go_wp2_with fail
  refine ((HFE.out _ HS.out HF.out).mono ?_)
  rintro e w2 ⟨b1, rfl, hq, hb⟩
  replace HK := Lib.hid (HK.out.keep hb); clear k0 k1 k2 k3 k4 k5 k6 kf0 kf1 kf2 kf3 kf4 kf5 kf6; replace HS := Lib.hid (SbsAt.kept HS.out hb); replace HF := Lib.hid (FdsAt.kept HF.out hb); replace HB := Lib.hid (bch' HB.out hb); clear hb; obtain ⟨k0, k1, k2, k3, k4, k5, k6, kf0, kf1, kf2, kf3, kf4, kf5, kf6⟩ := HK.out.c7
  cases b1
  · go_wp2_with (first | (with_reducible refine ((HAW.out _ (ENV.out.below HB.out)).mono ?_); rintro e w' ⟨rfl, hb⟩; replace HK := Lib.hid (HK.out.keep hb); clear k0 k1 k2 k3 k4 k5 k6 kf0 kf1 kf2 kf3 kf4 kf5 kf6; replace HS := Lib.hid (SbsAt.kept HS.out hb); replace HF := Lib.hid (FdsAt.kept HF.out hb); replace HB := Lib.hid (bch' HB.out hb); clear hb; obtain ⟨k0, k1, k2, k3, k4, k5, k6, kf0, kf1, kf2, kf3, kf4, kf5, kf6⟩ := HK.out.c7))
    go_ret
    exact ⟨rfl, HB.out⟩
  · obtain ⟨hx, hl⟩ := hq rfl
    clear hq
    have hc := fun W (h1 : SbsAt W (.slice ps su.length zs) su) (h2 : FdsAt W (.slice pf fd.length zf) fd) => r30_check tz st ti bl fr (.slice ps su.length zs) (.slice pf fd.length zf) su fd W h1 h2 (by omega) (fun i hi => Nat.le_trans (hl i hi) (by omega))
    by_cases hm : maE fr tz st ti su fd = 0
    · rw [hm] at hc
      by_cases o1 : ch < (1 : Int)
      · clear hm hx hl
        have HC := Lib.hid hc; clear hc
        go_wp2_with (first | (with_reducible refine ((HC.out _ HS.out HF.out).mono ?_); rintro e w' ⟨rfl, hb⟩; replace HK := Lib.hid (HK.out.keep hb); clear k0 k1 k2 k3 k4 k5 k6 kf0 kf1 kf2 kf3 kf4 kf5 kf6; replace HS := Lib.hid (SbsAt.kept HS.out hb); replace HF := Lib.hid (FdsAt.kept HF.out hb); replace HB := Lib.hid (bch' HB.out hb); clear hb; obtain ⟨k0, k1, k2, k3, k4, k5, k6, kf0, kf1, kf2, kf3, kf4, kf5, kf6⟩ := HK.out.c7) | (with_reducible refine ((HAW.out _ (ENV.out.below HB.out)).mono ?_); rintro e w' ⟨rfl, hb⟩; replace HK := Lib.hid (HK.out.keep hb); clear k0 k1 k2 k3 k4 k5 k6 kf0 kf1 kf2 kf3 kf4 kf5 kf6; replace HS := Lib.hid (SbsAt.kept HS.out hb); replace HF := Lib.hid (FdsAt.kept HF.out hb); replace HB := Lib.hid (bch' HB.out hb); clear hb; obtain ⟨k0, k1, k2, k3, k4, k5, k6, kf0, kf1, kf2, kf3, kf4, kf5, kf6⟩ := HK.out.c7))
        go_ret
        exact ⟨rfl, HB.out⟩
      · by_cases o2 : (999 : Int) < ch
        · clear hm hx hl
          have HC := Lib.hid hc; clear hc
          go_wp2_with (first | (with_reducible refine ((HC.out _ HS.out HF.out).mono ?_); rintro e w' ⟨rfl, hb⟩; replace HK := Lib.hid (HK.out.keep hb); clear k0 k1 k2 k3 k4 k5 k6 kf0 kf1 kf2 kf3 kf4 kf5 kf6; replace HS := Lib.hid (SbsAt.kept HS.out hb); replace HF := Lib.hid (FdsAt.kept HF.out hb); replace HB := Lib.hid (bch' HB.out hb); clear hb; obtain ⟨k0, k1, k2, k3, k4, k5, k6, kf0, kf1, kf2, kf3, kf4, kf5, kf6⟩ := HK.out.c7) | (with_reducible refine ((HAW.out _ (ENV.out.below HB.out)).mono ?_); rintro e w' ⟨rfl, hb⟩; replace HK := Lib.hid (HK.out.keep hb); clear k0 k1 k2 k3 k4 k5 k6 kf0 kf1 kf2 kf3 kf4 kf5 kf6; replace HS := Lib.hid (SbsAt.kept HS.out hb); replace HF := Lib.hid (FdsAt.kept HF.out hb); replace HB := Lib.hid (bch' HB.out hb); clear hb; obtain ⟨k0, k1, k2, k3, k4, k5, k6, kf0, kf1, kf2, kf3, kf4, kf5, kf6⟩ := HK.out.c7))
          go_ret
          exact ⟨rfl, HB.out⟩
        · obtain ⟨m1, m2, m3⟩ := maE_zero hm
          have hz : onE fr tz st ti su fd ch = 0 := onE_ok hm (by omega)
          have tok := tabOk m2
          have h16 := tok.few
          have hso := fun W (h1 : SbsAt W (.slice ps su.length zs) su) (h2 : FdsAt W (.slice pf fd.length zf) fd) (e : Env W) => own_msources_ok tz st ti bl fr (.slice ps su.length zs) (.slice pf fd.length zf) su fd ch W h1 h2 hx hl hz e
          have hfa := fun W (h1 : SbsAt W (.slice ps su.length zs) su) (h2 : FdsAt W (.slice pf fd.length zf) fd) (e : Env W) => own_mfactor_ok tz st ti bl fr (.slice ps su.length zs) (.slice pf fd.length zf) su fd ch t W h1 h2 hx hl hz e
          obtain ⟨qf, hqf⟩ : ∃ q, q = facQ (mainQ fr tz st ti bl t) su fd ch t su.length := ⟨_, rfl⟩
          have HQF := Lib.hid hqf
          rw [← hqf] at hfa
          clear hqf
          obtain ⟨n0, n1⟩ := src_len (bl := bl) (su := su) (ch := ch)
          have HN18 : Hid ((srcL bl su ch).length ≤ 18) := Lib.hid (by omega)
          have FOK := Lib.hid (facOk m3)
          have HMG := Lib.hid m1
          have TOK := Lib.hid tok; have HM := Lib.hid hm; have HZ := Lib.hid hz; have HXL := Lib.hid hx; have HLL := Lib.hid hl
          clear tok hm hz hx hl m1 m2 m3 n0 n1 h16
          have HSO := Lib.hid hso; clear hso
          have HFA := Lib.hid hfa; clear hfa
          have HC := Lib.hid hc; clear hc
          go_upto_region 3 with (first | (with_reducible refine ((HC.out _ HS.out HF.out).mono ?_); rintro e w' ⟨rfl, hb⟩; replace HK := Lib.hid (HK.out.keep hb); clear k0 k1 k2 k3 k4 k5 k6 kf0 kf1 kf2 kf3 kf4 kf5 kf6; replace HS := Lib.hid (SbsAt.kept HS.out hb); replace HF := Lib.hid (FdsAt.kept HF.out hb); replace HB := Lib.hid (bch' HB.out hb); clear hb; obtain ⟨k0, k1, k2, k3, k4, k5, k6, kf0, kf1, kf2, kf3, kf4, kf5, kf6⟩ := HK.out.c7))
          go_wp2_with fail
          refine ((HSO.out _ HS.out HF.out (ENV.out.below HB.out)).mono ?_)
          rintro e w4 ⟨pv, cv, rfl, hp, hb⟩
          have HP := Lib.hid hp; clear hp
          replace HK := Lib.hid (HK.out.keep hb); clear k0 k1 k2 k3 k4 k5 k6 kf0 kf1 kf2 kf3 kf4 kf5 kf6; replace HS := Lib.hid (SbsAt.kept HS.out hb); replace HF := Lib.hid (FdsAt.kept HF.out hb); replace HB := Lib.hid (bch' HB.out hb); clear hb; obtain ⟨k0, k1, k2, k3, k4, k5, k6, kf0, kf1, kf2, kf3, kf4, kf5, kf6⟩ := HK.out.c7
          go_upto_region 7 with (first | (with_reducible refine ((HFA.out _ HS.out HF.out (ENV.out.below HB.out)).mono ?_); rintro e w' ⟨rfl, hb⟩; replace HK := Lib.hid (HK.out.keep hb); clear k0 k1 k2 k3 k4 k5 k6 kf0 kf1 kf2 kf3 kf4 kf5 kf6; replace HS := Lib.hid (SbsAt.kept HS.out hb); replace HF := Lib.hid (FdsAt.kept HF.out hb); replace HP := Lib.hid (PtsAt.below HP.out hb); replace HB := Lib.hid (bch' HB.out hb); clear hb; obtain ⟨k0, k1, k2, k3, k4, k5, k6, kf0, kf1, kf2, kf3, kf4, kf5, kf6⟩ := HK.out.c7))
          obtain ⟨w5, rfl⟩ : ∃ w5 : World, w5 = w' := ⟨_, rfl⟩
          have HK5 := HK; have HS5 := HS; have HF5 := HF; have HB0 := HB
          clear k0 k1 k2 k3 k4 k5 k6 kf0 kf1 kf2 kf3 kf4 kf5 kf6
          clear HK HS HF HB
          have HB5 := Lib.hid (Below.refl w5.heap.size w5)
          go_wp2_with fail
          go_loopw [11, 59] (fun s i wr => ∃ k r : Nat, i = .int .i64 (k : Int) ∧ s = .string ⟨(showR (prQ (srcL bl su ch) fr tz st ti bl su fd ch t k)).toArray⟩ ∧ Hid (k + r = (srcL bl su ch).length) ∧ Hid (Below w5.heap.size w5 wr)) (fun _ i _ => (srcL bl su ch).length - (intOf i).toNat)
          case atStart => exact ⟨0, (srcL bl su ch).length, rfl, by rw [prQ_zero, show showR 1 = [49] by decide +kernel], Lib.hid (by omega), HB5⟩
          case round =>
            obtain ⟨k, r, rfl, rfl, hkr, HB2⟩ := hrel
            clear HB5
            have HB5 := HB2; clear HB2
            have HB : Hid (Below w.heap.size w wr) := Lib.hid (bch' HB0.out HB5.out)
            have HS := Lib.hid (SbsAt.kept HS5.out HB5.out); have HF := Lib.hid (FdsAt.kept HF5.out HB5.out)
            have HK := Lib.hid (HK5.out.keep HB5.out)
            obtain ⟨k0, k1, k2, k3, k4, k5, k6, kf0, kf1, kf2, kf3, kf4, kf5, kf6⟩ := HK.out.c7
            cases r with
            | zero =>
              have hlt : ¬ (k : Int) < ((srcL bl su ch).length : Int) := by have := hkr.out; omega
              have HPF : Hid (showR (prQ (srcL bl su ch) fr tz st ti bl su fd ch t k) = showR qf) := Lib.hid (by rw [show k = (srcL bl su ch).length by have := hkr.out; omega, HQF.out]; exact congrArg showR (src_prod TOK.out))
              rw [HPF.out]
              generalize showR qf = tf at *
              go_wp2_with (first | (with_reducible refine ((HAW.out _ (ENV.out.below HB.out)).mono ?_); rintro e w' ⟨rfl, hb⟩; replace HK := Lib.hid (HK.out.keep hb); clear k0 k1 k2 k3 k4 k5 k6 kf0 kf1 kf2 kf3 kf4 kf5 kf6; replace HS := Lib.hid (SbsAt.kept HS.out hb); replace HF := Lib.hid (FdsAt.kept HF.out hb); replace HB := Lib.hid (bch' HB.out hb); clear hb; obtain ⟨k0, k1, k2, k3, k4, k5, k6, kf0, kf1, kf2, kf3, kf4, kf5, kf6⟩ := HK.out.c7))
              go_ret
              exact ⟨rfl, HB.out⟩
            | succ r =>
              have hkn : k < (srcL bl su ch).length := by have := hkr.out; omega
              have hlt : (k : Int) < ((srcL bl su ch).length : Int) := by omega
              have hun : IntKind.i64.wrap ((k : Int) + 1) = (k : Int) + 1 := IntWalk.i64_in _ (by have := HN18.out; omega)
              obtain ⟨b, o, hpv, hb, hC⟩ : ∃ b o, pv = some ⟨b, o, none⟩ ∧ b < w5.heap.size ∧ PtC w5 b o (srcL bl su ch) := by
                obtain ⟨p, c, e, h2⟩ := HP.out
                injection e with e1 e2 e3
                subst e1
                exact h2 (fun h => by rw [h] at hkn; exact absurd hkn (Nat.not_lt_zero _))
              subst hpv
              have HPC := Lib.hid hC; have HPB := Lib.hid hb; clear hC hb
              obtain ⟨c1, c2⟩ := HPC.out.below HB5.out HPB.out k hkn
              have hbr : b < wr.heap.size := by have := HPB.out; have := HB5.out.size; omega
              have hal := (Below.refl wr.heap.size wr).alloc (Nat.le_refl _) (.cells #[.int .i64 (pX (srcL bl su ch) k), .int .i64 (pY (srcL bl su ch) k)] 43)
              replace HK := Lib.hid (HK.out.keep hal)
              replace HS := Lib.hid (SbsAt.kept HS.out hal); replace HF := Lib.hid (FdsAt.kept HF.out hal)
              replace HB5 := Lib.hid (bch' HB5.out hal); replace HB := Lib.hid (bch' HB.out hal)
              clear hal
              have HX := Lib.hid (Blk.new wr 43 #[.int .i64 (pX (srcL bl su ch) k), .int .i64 (pY (srcL bl su ch) k)])
              go_upto_region 11 with fail
              clear k0 k1 k2 k3 k4 k5 k6 kf0 kf1 kf2 kf3 kf4 kf5 kf6
              clear c1 c2 hbr
              generalize wr.alloc (.cells #[.int .i64 (pX (srcL bl su ch) k), .int .i64 (pY (srcL bl su ch) k)] 43) = w7 at *
              generalize wr.heap.size = GX at *
              obtain ⟨k0, k1, k2, k3, k4, k5, k6, kf0, kf1, kf2, kf3, kf4, kf5, kf6⟩ := HK.out.c7
              obtain ⟨x0, x1, xf0, xf1⟩ := HX.out.c2
              have HK7 := HK; have HX7 := HX; have HS7 := HS; have HF7 := HF; have HB57 := HB5; have HB07 := HB
              have hal := (Below.refl w7.heap.size w7).alloc (Nat.le_refl _) (.cells #[.string ⟨(fr).toArray⟩, .int .i64 tz, .int .i64 st, .int .i64 ti, .bool (bl), (.slice ps su.length zs), (.slice pf fd.length zf)] 28)
              have HB5 := Lib.hid hal; clear hal
              have HA := Lib.hid (Blk.new w7 28 #[.string ⟨(fr).toArray⟩, .int .i64 tz, .int .i64 st, .int .i64 ti, .bool (bl), (.slice ps su.length zs), (.slice pf fd.length zf)])
              have HX5 : Hid (SbsX w7.heap.size w (w7.alloc (.cells #[.string ⟨(fr).toArray⟩, .int .i64 tz, .int .i64 st, .int .i64 ti, .bool (bl), (.slice ps su.length zs), (.slice pf fd.length zf)] 28)) (.slice ps su.length zs) su) := Lib.hid (SbsX.start HS0.out (bch' HB07.out HB5.out) HB07.out.size)
              go_upto_region 12 with fail
              clear k0 k1 k2 k3 k4 k5 k6 kf0 kf1 kf2 kf3 kf4 kf5 kf6
              clear x0 x1 xf0 xf1
              clear HK HX HS HF HB
              generalize w7.alloc (.cells #[.string ⟨(fr).toArray⟩, .int .i64 tz, .int .i64 st, .int .i64 ti, .bool (bl), (.slice ps su.length zs), (.slice pf fd.length zf)] 28) = w9 at *
              go_wp2_with fail
              go_loopw [66] (fun i wr => ∃ (j q : Nat) (af : Txt) (at_ az ai : Int) (ab : Bool) (asu : List Sb) (pa : Option Addr) (za : Nat), i = .int .i64 (j : Int) ∧ Hid (j + q = (srcL bl su ch).length) ∧ Hid (Below w7.heap.size w7 wr) ∧ Hid (Blk wr w7.heap.size 28 #[.string ⟨(af).toArray⟩, .int .i64 at_, .int .i64 az, .int .i64 ai, .bool (ab), .slice pa asu.length za, (.slice pf fd.length zf)]) ∧ Hid (SbsX w7.heap.size w wr (.slice pa asu.length za) asu) ∧ Hid (af = aFr (othP (srcL bl su ch) (pX (srcL bl su ch) k, pY (srcL bl su ch) k) j) fr ∧ at_ = aTo (othP (srcL bl su ch) (pX (srcL bl su ch) k, pY (srcL bl su ch) k) j) tz ∧ az = aZe (othP (srcL bl su ch) (pX (srcL bl su ch) k, pY (srcL bl su ch) k) j) st ∧ ai = aZe (othP (srcL bl su ch) (pX (srcL bl su ch) k, pY (srcL bl su ch) k) j) ti ∧ ab = aBl (othP (srcL bl su ch) (pX (srcL bl su ch) k, pY (srcL bl su ch) k) j) bl ∧ asu = aSu (othP (srcL bl su ch) (pX (srcL bl su ch) k, pY (srcL bl su ch) k) j) su)) (fun i _ => (srcL bl su ch).length - (intOf i).toNat)
              case atStart => exact ⟨0, (srcL bl su ch).length, fr, tz, st, ti, bl, su, ps, zs, rfl, Lib.hid (by omega), HB5, HA, HX5, Lib.hid ⟨rfl, rfl, rfl, rfl, (aBl_nil bl).symm, (aSu_nil su).symm⟩⟩
              case round =>
                obtain ⟨j, q, af, at_, az, ai, ab, asu, pa, za, rfl, hjr, HB52, HA2, HX52, HE⟩ := hrel
                clear HB5 HA HX5
                have HB5 := HB52; have HA := HA2; have HX5 := HX52; clear HB52 HA2 HX52
                have HB : Hid (Below w.heap.size w wr) := Lib.hid (bch' HB07.out HB5.out)
                have HS := Lib.hid (SbsAt.kept HS7.out HB5.out); have HF := Lib.hid (FdsAt.kept HF7.out HB5.out)
                have HK := Lib.hid (HK7.out.keep HB5.out); have HX := Lib.hid (HX7.out.keep HB5.out)
                obtain ⟨k0, k1, k2, k3, k4, k5, k6, kf0, kf1, kf2, kf3, kf4, kf5, kf6⟩ := HK.out.c7
                obtain ⟨x0, x1, xf0, xf1⟩ := HX.out.c2
                obtain ⟨l0, l1, l2, l3, l4, l5, l6, lf0, lf1, lf2, lf3, lf4, lf5, lf6⟩ := HA.out.c7
                cases q with
                | zero =>
                  have hlt : ¬ (j : Int) < ((srcL bl su ch).length : Int) := by have := hjr.out; omega
                  have hfz := fun W (h1 : SbsAt W (.slice pa asu.length za) asu) (h2 : FdsAt W (.slice pf fd.length zf) fd) (e : Env W) => own_mfactor_ok at_ az ai ab af (.slice pa asu.length za) (.slice pf fd.length zf) asu fd ch t W h1 h2 (by obtain ⟨rfl, -⟩ := HE.out; exact aFr_len _ HXL.out) HLL.out (by obtain ⟨rfl, rfl, rfl, rfl, -, rfl⟩ := HE.out; exact onE_b _ HZ.out) e
                  have hone : facQ (mainQ af at_ az ai ab t) asu fd ch t asu.length = (wiQ (othL (srcL bl su ch) (pX (srcL bl su ch) k, pY (srcL bl su ch) k)) fr tz st ti bl su fd ch t) := by
                    obtain ⟨rfl, rfl, rfl, rfl, rfl, rfl⟩ := HE.out
                    rw [show j = (srcL bl su ch).length by have := hjr.out; omega, othP_end]; rfl
                  rw [hone] at hfz
                  clear hone
                  have fw : Fits 200 (wiQ (othL (srcL bl su ch) (pX (srcL bl su ch) k, pY (srcL bl su ch) k)) fr tz st ti bl su fd ch t) := wiQ_fits t HMG.out HXL.out TOK.out FOK.out HLL.out (pt_mem hkn)
                  have fp : Fits 3700 (prQ (srcL bl su ch) fr tz st ti bl su fd ch t k) := (prQ_fits t HMG.out HXL.out TOK.out FOK.out HLL.out k (by omega)).mono (by have := HN18.out; omega)
                  have hck := fun W => r2_check (showR (wiQ (othL (srcL bl su ch) (pX (srcL bl su ch) k, pY (srcL bl su ch) k)) fr tz st ti bl su fd ch t)) W (len_ok fw (by omega))
                  rw [check_gen fw (by omega)] at hck
                  have hti := fun W => r2_times (prQ (srcL bl su ch) fr tz st ti bl su fd ch t k) (wiQ (othL (srcL bl su ch) (pX (srcL bl su ch) k, pY (srcL bl su ch) k)) fr tz st ti bl su fd ch t) W (fp.mono (by omega)) (fw.mono (by omega))
                  have HPS : Hid (showR (prQ (srcL bl su ch) fr tz st ti bl su fd ch t (k + 1)) = showR ((prQ (srcL bl su ch) fr tz st ti bl su fd ch t k) * (wiQ (othL (srcL bl su ch) (pX (srcL bl su ch) k, pY (srcL bl su ch) k)) fr tz st ti bl su fd ch t))) := Lib.hid (by rw [prQ_succ fr tz st ti bl su fd ch t hkn, pt_at hkn])
                  generalize showR (wiQ (othL (srcL bl su ch) (pX (srcL bl su ch) k, pY (srcL bl su ch) k)) fr tz st ti bl su fd ch t) = tw at *
                  generalize showR (prQ (srcL bl su ch) fr tz st ti bl su fd ch t k) = tp at *
                  generalize showR ((prQ (srcL bl su ch) fr tz st ti bl su fd ch t k) * (wiQ (othL (srcL bl su ch) (pX (srcL bl su ch) k, pY (srcL bl su ch) k)) fr tz st ti bl su fd ch t)) = tq at *
                  clear fw fp
                  have HFZ := Lib.hid hfz; clear hfz
                  have HCK := Lib.hid hck; clear hck
                  have HTI := Lib.hid hti; clear hti
                  have HSA := Lib.hid (HX5.out.at_ HB.out)
                  have HB50 : Hid (Below w5.heap.size w5 wr) := Lib.hid (bch' HB57.out HB5.out)
                  go_wp2_with (first | (with_reducible refine ((HFZ.out _ HSA.out HF.out (ENV.out.below HB.out)).mono ?_); rintro e w' ⟨rfl, hb⟩; replace HK := Lib.hid (HK.out.keep hb); clear k0 k1 k2 k3 k4 k5 k6 kf0 kf1 kf2 kf3 kf4 kf5 kf6; replace HX := Lib.hid (HX.out.keep hb); clear x0 x1 xf0 xf1; replace HA := Lib.hid (HA.out.keep hb); clear l0 l1 l2 l3 l4 l5 l6 lf0 lf1 lf2 lf3 lf4 lf5 lf6; replace HS := Lib.hid (SbsAt.kept HS.out hb); replace HF := Lib.hid (FdsAt.kept HF.out hb); replace HB50 := Lib.hid (bch' HB50.out hb); replace HB := Lib.hid (bch' HB.out hb); clear hb; obtain ⟨k0, k1, k2, k3, k4, k5, k6, kf0, kf1, kf2, kf3, kf4, kf5, kf6⟩ := HK.out.c7; obtain ⟨x0, x1, xf0, xf1⟩ := HX.out.c2; obtain ⟨l0, l1, l2, l3, l4, l5, l6, lf0, lf1, lf2, lf3, lf4, lf5, lf6⟩ := HA.out.c7) | (with_reducible refine ((HCK.out _).mono ?_); rintro e w' ⟨rfl, hb⟩; replace HK := Lib.hid (HK.out.keep hb); clear k0 k1 k2 k3 k4 k5 k6 kf0 kf1 kf2 kf3 kf4 kf5 kf6; replace HX := Lib.hid (HX.out.keep hb); clear x0 x1 xf0 xf1; replace HA := Lib.hid (HA.out.keep hb); clear l0 l1 l2 l3 l4 l5 l6 lf0 lf1 lf2 lf3 lf4 lf5 lf6; replace HS := Lib.hid (SbsAt.kept HS.out hb); replace HF := Lib.hid (FdsAt.kept HF.out hb); replace HB50 := Lib.hid (bch' HB50.out hb); replace HB := Lib.hid (bch' HB.out hb); clear hb; obtain ⟨k0, k1, k2, k3, k4, k5, k6, kf0, kf1, kf2, kf3, kf4, kf5, kf6⟩ := HK.out.c7; obtain ⟨x0, x1, xf0, xf1⟩ := HX.out.c2; obtain ⟨l0, l1, l2, l3, l4, l5, l6, lf0, lf1, lf2, lf3, lf4, lf5, lf6⟩ := HA.out.c7) | (with_reducible refine ((HTI.out _).mono ?_); rintro e w' ⟨rfl, hb⟩; replace HK := Lib.hid (HK.out.keep hb); clear k0 k1 k2 k3 k4 k5 k6 kf0 kf1 kf2 kf3 kf4 kf5 kf6; replace HX := Lib.hid (HX.out.keep hb); clear x0 x1 xf0 xf1; replace HA := Lib.hid (HA.out.keep hb); clear l0 l1 l2 l3 l4 l5 l6 lf0 lf1 lf2 lf3 lf4 lf5 lf6; replace HS := Lib.hid (SbsAt.kept HS.out hb); replace HF := Lib.hid (FdsAt.kept HF.out hb); replace HB50 := Lib.hid (bch' HB50.out hb); replace HB := Lib.hid (bch' HB.out hb); clear hb; obtain ⟨k0, k1, k2, k3, k4, k5, k6, kf0, kf1, kf2, kf3, kf4, kf5, kf6⟩ := HK.out.c7; obtain ⟨x0, x1, xf0, xf1⟩ := HX.out.c2; obtain ⟨l0, l1, l2, l3, l4, l5, l6, lf0, lf1, lf2, lf3, lf4, lf5, lf6⟩ := HA.out.c7))
                  go_roundw
                  case rel => exact ⟨k + 1, r, by first | rfl | simp, by rw [HPS.out], Lib.hid (by have := hkr.out; omega), HB50⟩
                  case measure => first | (simp [intOf]; done) | (simp [intOf]; omega)
                | succ q =>
                  have hjn : j < (srcL bl su ch).length := by have := hjr.out; omega
                  have hlt : (j : Int) < ((srcL bl su ch).length : Int) := by omega
                  have hun : IntKind.i64.wrap ((j : Int) + 1) = (j : Int) + 1 := IntWalk.i64_in _ (by have := HN18.out; omega)
                  obtain ⟨y1, y2⟩ := HPC.out.below (bch' HB57.out HB5.out) HPB.out j hjn
                  have hbr : b < wr.heap.size := by have := HPB.out; have := HB57.out.size; have := HB5.out.size; omega
                  have hal := (Below.refl wr.heap.size wr).alloc (Nat.le_refl _) (.cells #[.int .i64 (pX (srcL bl su ch) j), .int .i64 (pY (srcL bl su ch) j)] 43)
                  replace HK := Lib.hid (HK.out.keep hal)
                  replace HX := Lib.hid (HX.out.keep hal)
                  replace HA := Lib.hid (HA.out.keep hal)
                  replace HS := Lib.hid (SbsAt.kept HS.out hal); replace HF := Lib.hid (FdsAt.kept HF.out hal)
                  replace HB5 := Lib.hid (bch' HB5.out hal); replace HX5 := Lib.hid (SbsX.keep HX5.out hal); replace HB := Lib.hid (bch' HB.out hal)
                  clear hal
                  have HE_ := Lib.hid (Blk.new wr 43 #[.int .i64 (pX (srcL bl su ch) j), .int .i64 (pY (srcL bl su ch) j)])
                  go_upto_region 15 with fail
                  clear k0 k1 k2 k3 k4 k5 k6 kf0 kf1 kf2 kf3 kf4 kf5 kf6
                  clear x0 x1 xf0 xf1
                  clear l0 l1 l2 l3 l4 l5 l6 lf0 lf1 lf2 lf3 lf4 lf5 lf6
                  clear y1 y2 hbr
                  generalize wr.alloc (.cells #[.int .i64 (pX (srcL bl su ch) j), .int .i64 (pY (srcL bl su ch) j)] 43) = wy at *
                  obtain ⟨k0, k1, k2, k3, k4, k5, k6, kf0, kf1, kf2, kf3, kf4, kf5, kf6⟩ := HK.out.c7
                  obtain ⟨x0, x1, xf0, xf1⟩ := HX.out.c2
                  obtain ⟨l0, l1, l2, l3, l4, l5, l6, lf0, lf1, lf2, lf3, lf4, lf5, lf6⟩ := HA.out.c7
                  obtain ⟨e0, e1, ef0, ef1⟩ := HE_.out.c2
                  by_cases hsx : (pX (srcL bl su ch) j, pY (srcL bl su ch) j) = (pX (srcL bl su ch) k, pY (srcL bl su ch) k)
                  · have hs1 : ((pX (srcL bl su ch) j == pX (srcL bl su ch) k) && (pY (srcL bl su ch) j == pY (srcL bl su ch) k)) = true := by injection hsx with a1 a2; rw [a1, a2]; simp
                    have hq9 := fun W => eql_src W (pX (srcL bl su ch) j) (pY (srcL bl su ch) j) (pX (srcL bl su ch) k) (pY (srcL bl su ch) k)
                    rw [hs1] at hq9
                    have HEQ2 : Hid (af = aFr (othP (srcL bl su ch) (pX (srcL bl su ch) k, pY (srcL bl su ch) k) (j + 1)) fr ∧ at_ = aTo (othP (srcL bl su ch) (pX (srcL bl su ch) k, pY (srcL bl su ch) k) (j + 1)) tz ∧ az = aZe (othP (srcL bl su ch) (pX (srcL bl su ch) k, pY (srcL bl su ch) k) (j + 1)) st ∧ ai = aZe (othP (srcL bl su ch) (pX (srcL bl su ch) k, pY (srcL bl su ch) k) (j + 1)) ti ∧ ab = aBl (othP (srcL bl su ch) (pX (srcL bl su ch) k, pY (srcL bl su ch) k) (j + 1)) bl ∧ asu = aSu (othP (srcL bl su ch) (pX (srcL bl su ch) k, pY (srcL bl su ch) k) (j + 1)) su) := Lib.hid (by rw [othP_same hjn hsx]; exact HE.out)
                    clear hs1 hsx
                    go_wp2_with fail
                    go_roundw
                    case rel => exact ⟨j + 1, q, af, at_, az, ai, ab, asu, pa, za, by first | rfl | simp, Lib.hid (by have := hjr.out; omega), HB5, HA, HX5, HEQ2⟩
                    case measure => first | (simp [intOf]; done) | (simp [intOf]; omega)
                  · have hs1 : ((pX (srcL bl su ch) j == pX (srcL bl su ch) k) && (pY (srcL bl su ch) j == pY (srcL bl su ch) k)) = false := by rw [Bool.and_eq_false_iff]; by_cases a1 : pX (srcL bl su ch) j = pX (srcL bl su ch) k; (right; rw [beq_eq_false_iff_ne]; exact fun a2 => hsx (by rw [a1, a2])); (left; rw [beq_eq_false_iff_ne]; exact a1)
                    have hq9 := fun W => eql_src W (pX (srcL bl su ch) j) (pY (srcL bl su ch) j) (pX (srcL bl su ch) k) (pY (srcL bl su ch) k)
                    rw [hs1] at hq9
                    have hw2 : woE (pX (srcL bl su ch) j) (pY (srcL bl su ch) j) asu = 0 := by obtain ⟨-, -, -, -, -, rfl⟩ := HE.out; exact src_nexts (pt_mem hjn) (othP_not (src_nodup TOK.out) hjn)
                    have hwa := fun W (hX : SbsX w7.heap.size w W (.slice pa asu.length za) asu) (hb : Below w.heap.size w W) (hB : w7.heap.size < W.heap.size) (h2 : FdsAt W (.slice pf fd.length zf) fd) (e : Env W) => own_mwo_okX at_ az ai ab af (.slice pa asu.length za) (.slice pf fd.length zf) asu fd (pX (srcL bl su ch) j) (pY (srcL bl su ch) j) w7.heap.size W w hX hb hB h2 (by obtain ⟨rfl, -⟩ := HE.out; exact aFr_len _ HXL.out) HLL.out (by obtain ⟨rfl, rfl, rfl, rfl, -, rfl⟩ := HE.out; exact aMa _ HM.out) hw2 e
                    have HEQ2 : Hid (aFr [(pX (srcL bl su ch) j, pY (srcL bl su ch) j)] af = aFr (othP (srcL bl su ch) (pX (srcL bl su ch) k, pY (srcL bl su ch) k) (j + 1)) fr ∧ aTo [(pX (srcL bl su ch) j, pY (srcL bl su ch) j)] at_ = aTo (othP (srcL bl su ch) (pX (srcL bl su ch) k, pY (srcL bl su ch) k) (j + 1)) tz ∧ aZe [(pX (srcL bl su ch) j, pY (srcL bl su ch) j)] az = aZe (othP (srcL bl su ch) (pX (srcL bl su ch) k, pY (srcL bl su ch) k) (j + 1)) st ∧ aZe [(pX (srcL bl su ch) j, pY (srcL bl su ch) j)] ai = aZe (othP (srcL bl su ch) (pX (srcL bl su ch) k, pY (srcL bl su ch) k) (j + 1)) ti ∧ aBl [(pX (srcL bl su ch) j, pY (srcL bl su ch) j)] ab = aBl (othP (srcL bl su ch) (pX (srcL bl su ch) k, pY (srcL bl su ch) k) (j + 1)) bl ∧ aSu [(pX (srcL bl su ch) j, pY (srcL bl su ch) j)] asu = aSu (othP (srcL bl su ch) (pX (srcL bl su ch) k, pY (srcL bl su ch) k) (j + 1)) su) := by
                      obtain ⟨rfl, rfl, rfl, rfl, rfl, rfl⟩ := HE.out
                      rw [othP_other hjn hsx, aFr_snoc, aTo_snoc, aZe_snoc, aZe_snoc, aBl_snoc, aSu_snoc]
                      exact Lib.hid ⟨rfl, rfl, rfl, rfl, rfl, rfl⟩
                    obtain ⟨zf2, hzf2⟩ : ∃ z, z = aFr [(pX (srcL bl su ch) j, pY (srcL bl su ch) j)] af := ⟨_, rfl⟩
                    obtain ⟨zt2, hzt2⟩ : ∃ z, z = aTo [(pX (srcL bl su ch) j, pY (srcL bl su ch) j)] at_ := ⟨_, rfl⟩
                    obtain ⟨zz2, hzz2⟩ : ∃ z, z = aZe [(pX (srcL bl su ch) j, pY (srcL bl su ch) j)] az := ⟨_, rfl⟩
                    obtain ⟨zi2, hzi2⟩ : ∃ z, z = aZe [(pX (srcL bl su ch) j, pY (srcL bl su ch) j)] ai := ⟨_, rfl⟩
                    obtain ⟨zb2, hzb2⟩ : ∃ z, z = aBl [(pX (srcL bl su ch) j, pY (srcL bl su ch) j)] ab := ⟨_, rfl⟩
                    obtain ⟨zsu, hzsu⟩ : ∃ z, z = aSu [(pX (srcL bl su ch) j, pY (srcL bl su ch) j)] asu := ⟨_, rfl⟩
                    rw [← hzf2, ← hzt2, ← hzz2, ← hzi2, ← hzb2, ← hzsu] at HEQ2
                    simp only [← hzf2, ← hzt2, ← hzz2, ← hzi2, ← hzb2, ← hzsu] at hwa
                    clear hzf2 hzt2 hzz2 hzi2 hzb2 hzsu hs1 hsx hw2
                    have HWA := Lib.hid hwa; clear hwa
                    go_wp2_with fail
                    refine ((HWA.out _ HX5.out HB.out (by have := HA.out.lt; omega) HF.out (ENV.out.below HB.out)).mono ?_)
                    rintro e w8 ⟨p3, c3, rfl, hx3, hb⟩
                    have HX3 := Lib.hid hx3; clear hx3
                    replace HK := Lib.hid (HK.out.keep hb); clear k0 k1 k2 k3 k4 k5 k6 kf0 kf1 kf2 kf3 kf4 kf5 kf6; replace HX := Lib.hid (HX.out.keep hb); clear x0 x1 xf0 xf1; replace HA := Lib.hid (HA.out.keep hb); clear l0 l1 l2 l3 l4 l5 l6 lf0 lf1 lf2 lf3 lf4 lf5 lf6; replace HE_ := Lib.hid (HE_.out.keep hb); clear e0 e1 ef0 ef1; replace HS := Lib.hid (SbsAt.kept HS.out hb); replace HF := Lib.hid (FdsAt.kept HF.out hb); replace HB5 := Lib.hid (bch' HB5.out hb); replace HX5 := Lib.hid (SbsX.keep HX5.out hb); replace HB := Lib.hid (bch' HB.out hb); clear hb; obtain ⟨k0, k1, k2, k3, k4, k5, k6, kf0, kf1, kf2, kf3, kf4, kf5, kf6⟩ := HK.out.c7; obtain ⟨x0, x1, xf0, xf1⟩ := HX.out.c2; obtain ⟨l0, l1, l2, l3, l4, l5, l6, lf0, lf1, lf2, lf3, lf4, lf5, lf6⟩ := HA.out.c7; obtain ⟨e0, e1, ef0, ef1⟩ := HE_.out.c2
                    have hal := (Below.refl w8.heap.size w8).alloc (Nat.le_refl _) (.cells #[.string ⟨(zf2).toArray⟩, .int .i64 zt2, .int .i64 zz2, .int .i64 zi2, .bool (zb2), .slice p3 zsu.length c3, (.slice pf fd.length zf)] 28)
                    replace HK := Lib.hid (HK.out.keep hal)
                    replace HX := Lib.hid (HX.out.keep hal)
                    replace HA := Lib.hid (HA.out.keep hal)
                    replace HE_ := Lib.hid (HE_.out.keep hal)
                    replace HS := Lib.hid (SbsAt.kept HS.out hal); replace HF := Lib.hid (FdsAt.kept HF.out hal)
                    replace HB5 := Lib.hid (bch' HB5.out hal); replace HX3 := Lib.hid (SbsX.keep HX3.out hal); replace HB := Lib.hid (bch' HB.out hal)
                    clear hal HX5
                    have HN := Lib.hid (Blk.new w8 28 #[.string ⟨(zf2).toArray⟩, .int .i64 zt2, .int .i64 zz2, .int .i64 zi2, .bool (zb2), .slice p3 zsu.length c3, (.slice pf fd.length zf)])
                    go_upto_region 17 with fail
                    clear k0 k1 k2 k3 k4 k5 k6 kf0 kf1 kf2 kf3 kf4 kf5 kf6
                    clear x0 x1 xf0 xf1
                    clear l0 l1 l2 l3 l4 l5 l6 lf0 lf1 lf2 lf3 lf4 lf5 lf6
                    clear e0 e1 ef0 ef1
                    generalize w8.alloc (.cells #[.string ⟨(zf2).toArray⟩, .int .i64 zt2, .int .i64 zz2, .int .i64 zi2, .bool (zb2), .slice p3 zsu.length c3, (.slice pf fd.length zf)] 28) = wz at *
                    generalize w8.heap.size = GN at *
                    obtain ⟨k0, k1, k2, k3, k4, k5, k6, kf0, kf1, kf2, kf3, kf4, kf5, kf6⟩ := HK.out.c7
                    obtain ⟨x0, x1, xf0, xf1⟩ := HX.out.c2
                    obtain ⟨l0, l1, l2, l3, l4, l5, l6, lf0, lf1, lf2, lf3, lf4, lf5, lf6⟩ := HA.out.c7
                    obtain ⟨e0, e1, ef0, ef1⟩ := HE_.out.c2
                    obtain ⟨n0, n1, n2, n3, n4, n5, n6, nf0, nf1, nf2, nf3, nf4, nf5, nf6⟩ := HN.out.c7
                    go_upto_region 19 with fail
                    go_upto_region 20 with fail
                    have HA4 := Lib.hid (HA.out.all7 (.string ⟨(zf2).toArray⟩) (.int .i64 zt2) (.int .i64 zz2) (.int .i64 zi2) (.bool (zb2)) (.slice p3 zsu.length c3) ((.slice pf fd.length zf)))
                    have HB54 := Lib.hid (bset7 HB5.out (Nat.le_refl _) (.string ⟨(zf2).toArray⟩) (.int .i64 zt2) (.int .i64 zz2) (.int .i64 zi2) (.bool (zb2)) (.slice p3 zsu.length c3) ((.slice pf fd.length zf)))
                    have HX4 := Lib.hid (HX3.out.far (W' := (((((((wz.setCell ⟨w7.heap.size, 0, none⟩ (.string ⟨(zf2).toArray⟩)).setCell ⟨w7.heap.size, 1, none⟩ (.int .i64 zt2)).setCell ⟨w7.heap.size, 2, none⟩ (.int .i64 zz2)).setCell ⟨w7.heap.size, 3, none⟩ (.int .i64 zi2)).setCell ⟨w7.heap.size, 4, none⟩ (.bool (zb2))).setCell ⟨w7.heap.size, 5, none⟩ (.slice p3 zsu.length c3)).setCell ⟨w7.heap.size, 6, none⟩ ((.slice pf fd.length zf)))) (by rw [size_set7]; exact Nat.le_refl _) (fun g hg _ => near_set7 wz hg (.string ⟨(zf2).toArray⟩) (.int .i64 zt2) (.int .i64 zz2) (.int .i64 zi2) (.bool (zb2)) (.slice p3 zsu.length c3) ((.slice pf fd.length zf))))
                    clear k0 k1 k2 k3 k4 k5 k6 kf0 kf1 kf2 kf3 kf4 kf5 kf6; clear x0 x1 xf0 xf1; clear l0 l1 l2 l3 l4 l5 l6 lf0 lf1 lf2 lf3 lf4 lf5 lf6; clear e0 e1 ef0 ef1; clear n0 n1 n2 n3 n4 n5 n6 nf0 nf1 nf2 nf3 nf4 nf5 nf6
                    clear HK HA HE_ HN HX HS HF HB HB5 HX3
                    generalize (((((((wz.setCell ⟨w7.heap.size, 0, none⟩ (.string ⟨(zf2).toArray⟩)).setCell ⟨w7.heap.size, 1, none⟩ (.int .i64 zt2)).setCell ⟨w7.heap.size, 2, none⟩ (.int .i64 zz2)).setCell ⟨w7.heap.size, 3, none⟩ (.int .i64 zi2)).setCell ⟨w7.heap.size, 4, none⟩ (.bool (zb2))).setCell ⟨w7.heap.size, 5, none⟩ (.slice p3 zsu.length c3)).setCell ⟨w7.heap.size, 6, none⟩ ((.slice pf fd.length zf))) = wq at *
                    go_wp2_with fail
                    go_roundw
                    case rel => exact ⟨j + 1, q, zf2, zt2, zz2, zi2, zb2, zsu, p3, c3, by first | rfl | simp, Lib.hid (by have := hjr.out; omega), HB54, HA4, HX4, HEQ2⟩
                    case measure => first | (simp [intOf]; done) | (simp [intOf]; omega)
    · have hne : ((maE fr tz st ti su fd : Int) != 0) = true := by simpa using hm
      clear hm hx hl
      generalize maE fr tz st ti su fd = m at *
      have HC := Lib.hid hc; clear hc
      go_wp2_with (first | (with_reducible refine ((HC.out _ HS.out HF.out).mono ?_); rintro e w' ⟨rfl, hb⟩; replace HK := Lib.hid (HK.out.keep hb); clear k0 k1 k2 k3 k4 k5 k6 kf0 kf1 kf2 kf3 kf4 kf5 kf6; replace HS := Lib.hid (SbsAt.kept HS.out hb); replace HF := Lib.hid (FdsAt.kept HF.out hb); replace HB := Lib.hid (bch' HB.out hb); clear hb; obtain ⟨k0, k1, k2, k3, k4, k5, k6, kf0, kf1, kf2, kf3, kf4, kf5, kf6⟩ := HK.out.c7) | (with_reducible refine ((HAW.out _ (ENV.out.below HB.out)).mono ?_); rintro e w' ⟨rfl, hb⟩; replace HK := Lib.hid (HK.out.keep hb); clear k0 k1 k2 k3 k4 k5 k6 kf0 kf1 kf2 kf3 kf4 kf5 kf6; replace HS := Lib.hid (SbsAt.kept HS.out hb); replace HF := Lib.hid (FdsAt.kept HF.out hb); replace HB := Lib.hid (bch' HB.out hb); clear hb; obtain ⟨k0, k1, k2, k3, k4, k5, k6, kf0, kf1, kf2, kf3, kf4, kf5, kf6⟩ := HK.out.c7))
      go_ret
      exact ⟨rfl, HB.out⟩
end Go.Proofs.YtkjelfmgnkkijaaGreatDoor
