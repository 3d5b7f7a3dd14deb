/-
  Masters: Check, on, grand, Grand of the program. Masters: within, Apply, the closure of Factor. Masters: product and Factor of the program.
-/
import Derived.Test.YtkjelfmgnkkijaaGreatDoorSx
import Derived.Test.YtkjelfmgnkkijaaGreatDoorSm
import Derived.Test.YtkjelfmgnkkijaaGreatDoorQoMw
set_option linter.unusedVariables false
set_option linter.unusedSimpArgs false
namespace Go.Proofs.YtkjelfmgnkkijaaGreatDoor
open Go.RowKit Go.Shelf Lum
open Go.Lib (decDigits itoa)
attribute [local go_sem] bs_get bs_extract_end bs_extract_from bs_extract bs_append

set_option maxRecDepth 100000 in
set_option maxHeartbeats 4000000 in
theorem own_mcheck (tz st ti : Int) (bl : Bool) (fr : Txt) (sv fv : Value) (su : List Sb) (fd : List Fdr) (w : World) (hs : SbsAt w sv su) (hf : FdsAt w fv fd) (hx : fr.length ≤ 1000) (hl : ∀ i, i < fd.length → (fdv fd i).fr.length ≤ 1000) (env : Env w) :
    Calls Tryz.prog 80 #[.agg #[.string ⟨(fr).toArray⟩, .int .i64 tz, .int .i64 st, .int .i64 ti, .bool (bl), sv, fv]] w fun e w' => e = .returned (.int .i64 (maE fr tz st ti su fd)) ∧ Below w.heap.size w w' := by
  have ENV := Lib.hid env; clear env
  have HK := Lib.hid (Blk.new w 28 #[.string ⟨(fr).toArray⟩, .int .i64 tz, .int .i64 st, .int .i64 ti, .bool (bl), sv, fv])
  have HB := Lib.hid ((Below.refl w.heap.size w).alloc (Nat.le_refl _) (.cells #[.string ⟨(fr).toArray⟩, .int .i64 tz, .int .i64 st, .int .i64 ti, .bool (bl), sv, fv] 28))
  obtain ⟨k0, k1, k2, k3, k4, k5, k6, kf0, kf1, kf2, kf3, kf4, kf5, kf6⟩ := HK.out.c7
  have hal := (Below.refl w.heap.size w).alloc (Nat.le_refl _) (.cells #[.string ⟨(fr).toArray⟩, .int .i64 tz, .int .i64 st, .int .i64 ti, .bool (bl), sv, fv] 28)
  have HS := Lib.hid (SbsAt.kept hs hal)
  have HF := Lib.hid (FdsAt.kept hf hal)
  clear hal
  have hc := fun W (e : Env W) => own_gcheck fr tz st ti W hx e
  have ht := fun W (h : SbsAt W sv su) => own_stable su sv W h
  have hd := fun W (h : FdsAt W fv fd) (e : Env W) => own_sfaders fd fv W h hl e
  clear hs hf
  by_cases hz : glE fr tz st ti = 0
  · rw [hz] at hc
    by_cases h2 : tabE su = 0
    · rw [maE_fac hz h2]
      rw [h2] at ht
      clear hz h2
      generalize facE fd = m at *
      have HC := Lib.hid hc; clear hc
      have HT := Lib.hid ht; clear ht
      have HD := Lib.hid hd; clear hd
      go_enter Tryz.func80, Tryz.ntmps80
      go_wp2_with (first | (with_reducible refine ((HC.out _ (ENV.out.below HB.out)).mono ?_); rintro e w' ⟨rfl, hb⟩; replace HK := Lib.hid (HK.out.keep hb); clear k0 k1 k2 k3 k4 k5 k6 kf0 kf1 kf2 kf3 kf4 kf5 kf6; replace HS := Lib.hid (SbsAt.kept HS.out hb); replace HF := Lib.hid (FdsAt.kept HF.out hb); replace HB := Lib.hid (bch' HB.out hb); clear hb; obtain ⟨k0, k1, k2, k3, k4, k5, k6, kf0, kf1, kf2, kf3, kf4, kf5, kf6⟩ := HK.out.c7) | (with_reducible refine ((HT.out _ HS.out).mono ?_); rintro e w' ⟨rfl, hb⟩; replace HK := Lib.hid (HK.out.keep hb); clear k0 k1 k2 k3 k4 k5 k6 kf0 kf1 kf2 kf3 kf4 kf5 kf6; replace HS := Lib.hid (SbsAt.kept HS.out hb); replace HF := Lib.hid (FdsAt.kept HF.out hb); replace HB := Lib.hid (bch' HB.out hb); clear hb; obtain ⟨k0, k1, k2, k3, k4, k5, k6, kf0, kf1, kf2, kf3, kf4, kf5, kf6⟩ := HK.out.c7) | (with_reducible refine ((HD.out _ HF.out (ENV.out.below HB.out)).mono ?_); rintro e w' ⟨rfl, hb⟩; replace HK := Lib.hid (HK.out.keep hb); clear k0 k1 k2 k3 k4 k5 k6 kf0 kf1 kf2 kf3 kf4 kf5 kf6; replace HS := Lib.hid (SbsAt.kept HS.out hb); replace HF := Lib.hid (FdsAt.kept HF.out hb); replace HB := Lib.hid (bch' HB.out hb); clear hb; obtain ⟨k0, k1, k2, k3, k4, k5, k6, kf0, kf1, kf2, kf3, kf4, kf5, kf6⟩ := HK.out.c7))
      go_ret
      exact ⟨rfl, HB.out⟩
    · rw [maE_tab hz h2]
      have hne : ((tabE su : Int) != 0) = true := by simpa using h2
      clear hz h2
      generalize tabE su = m at *
      have HC := Lib.hid hc; clear hc
      have HT := Lib.hid ht; clear ht
      have HD := Lib.hid hd; clear hd
      go_enter Tryz.func80, Tryz.ntmps80
      go_wp2_with (first | (with_reducible refine ((HC.out _ (ENV.out.below HB.out)).mono ?_); rintro e w' ⟨rfl, hb⟩; replace HK := Lib.hid (HK.out.keep hb); clear k0 k1 k2 k3 k4 k5 k6 kf0 kf1 kf2 kf3 kf4 kf5 kf6; replace HS := Lib.hid (SbsAt.kept HS.out hb); replace HF := Lib.hid (FdsAt.kept HF.out hb); replace HB := Lib.hid (bch' HB.out hb); clear hb; obtain ⟨k0, k1, k2, k3, k4, k5, k6, kf0, kf1, kf2, kf3, kf4, kf5, kf6⟩ := HK.out.c7) | (with_reducible refine ((HT.out _ HS.out).mono ?_); rintro e w' ⟨rfl, hb⟩; replace HK := Lib.hid (HK.out.keep hb); clear k0 k1 k2 k3 k4 k5 k6 kf0 kf1 kf2 kf3 kf4 kf5 kf6; replace HS := Lib.hid (SbsAt.kept HS.out hb); replace HF := Lib.hid (FdsAt.kept HF.out hb); replace HB := Lib.hid (bch' HB.out hb); clear hb; obtain ⟨k0, k1, k2, k3, k4, k5, k6, kf0, kf1, kf2, kf3, kf4, kf5, kf6⟩ := HK.out.c7) | (with_reducible refine ((HD.out _ HF.out (ENV.out.below HB.out)).mono ?_); rintro e w' ⟨rfl, hb⟩; replace HK := Lib.hid (HK.out.keep hb); clear k0 k1 k2 k3 k4 k5 k6 kf0 kf1 kf2 kf3 kf4 kf5 kf6; replace HS := Lib.hid (SbsAt.kept HS.out hb); replace HF := Lib.hid (FdsAt.kept HF.out hb); replace HB := Lib.hid (bch' HB.out hb); clear hb; obtain ⟨k0, k1, k2, k3, k4, k5, k6, kf0, kf1, kf2, kf3, kf4, kf5, kf6⟩ := HK.out.c7))
      go_ret
      exact ⟨rfl, HB.out⟩
  · rw [maE_gl hz]
    have hne : ((glE fr tz st ti : Int) != 0) = true := by simpa using hz
    clear hz
    generalize glE fr tz st ti = m at *
    have HC := Lib.hid hc; clear hc
    have HT := Lib.hid ht; clear ht
    have HD := Lib.hid hd; clear hd
    go_enter Tryz.func80, Tryz.ntmps80
    go_wp2_with (first | (with_reducible refine ((HC.out _ (ENV.out.below HB.out)).mono ?_); rintro e w' ⟨rfl, hb⟩; replace HK := Lib.hid (HK.out.keep hb); clear k0 k1 k2 k3 k4 k5 k6 kf0 kf1 kf2 kf3 kf4 kf5 kf6; replace HS := Lib.hid (SbsAt.kept HS.out hb); replace HF := Lib.hid (FdsAt.kept HF.out hb); replace HB := Lib.hid (bch' HB.out hb); clear hb; obtain ⟨k0, k1, k2, k3, k4, k5, k6, kf0, kf1, kf2, kf3, kf4, kf5, kf6⟩ := HK.out.c7) | (with_reducible refine ((HT.out _ HS.out).mono ?_); rintro e w' ⟨rfl, hb⟩; replace HK := Lib.hid (HK.out.keep hb); clear k0 k1 k2 k3 k4 k5 k6 kf0 kf1 kf2 kf3 kf4 kf5 kf6; replace HS := Lib.hid (SbsAt.kept HS.out hb); replace HF := Lib.hid (FdsAt.kept HF.out hb); replace HB := Lib.hid (bch' HB.out hb); clear hb; obtain ⟨k0, k1, k2, k3, k4, k5, k6, kf0, kf1, kf2, kf3, kf4, kf5, kf6⟩ := HK.out.c7) | (with_reducible refine ((HD.out _ HF.out (ENV.out.below HB.out)).mono ?_); rintro e w' ⟨rfl, hb⟩; replace HK := Lib.hid (HK.out.keep hb); clear k0 k1 k2 k3 k4 k5 k6 kf0 kf1 kf2 kf3 kf4 kf5 kf6; replace HS := Lib.hid (SbsAt.kept HS.out hb); replace HF := Lib.hid (FdsAt.kept HF.out hb); replace HB := Lib.hid (bch' HB.out hb); clear hb; obtain ⟨k0, k1, k2, k3, k4, k5, k6, kf0, kf1, kf2, kf3, kf4, kf5, kf6⟩ := HK.out.c7))
    go_ret
    exact ⟨rfl, HB.out⟩

set_option maxRecDepth 100000 in
set_option maxHeartbeats 4000000 in
theorem own_mon (tz st ti : Int) (bl : Bool) (fr : Txt) (sv fv : Value) (su : List Sb) (fd : List Fdr) (ch : Int) (w : World) (hs : SbsAt w sv su) (hf : FdsAt w fv fd) (hx : fr.length ≤ 1000) (hl : ∀ i, i < fd.length → (fdv fd i).fr.length ≤ 1000) (env : Env w) :
    Calls Tryz.prog 86 #[.agg #[.string ⟨(fr).toArray⟩, .int .i64 tz, .int .i64 st, .int .i64 ti, .bool (bl), sv, fv], .int .i64 ch] w fun e w' => e = .returned (.int .i64 (onE fr tz st ti su fd ch)) ∧ Below w.heap.size w w' := by
  have ENV := Lib.hid env; clear env
  have HK := Lib.hid (Blk.new w 28 #[.string ⟨(fr).toArray⟩, .int .i64 tz, .int .i64 st, .int .i64 ti, .bool (bl), sv, fv])
  have HB := Lib.hid ((Below.refl w.heap.size w).alloc (Nat.le_refl _) (.cells #[.string ⟨(fr).toArray⟩, .int .i64 tz, .int .i64 st, .int .i64 ti, .bool (bl), sv, fv] 28))
  obtain ⟨k0, k1, k2, k3, k4, k5, k6, kf0, kf1, kf2, kf3, kf4, kf5, kf6⟩ := HK.out.c7
  have hal := (Below.refl w.heap.size w).alloc (Nat.le_refl _) (.cells #[.string ⟨(fr).toArray⟩, .int .i64 tz, .int .i64 st, .int .i64 ti, .bool (bl), sv, fv] 28)
  have HS := Lib.hid (SbsAt.kept hs hal)
  have HF := Lib.hid (FdsAt.kept hf hal)
  clear hal
  have hc := fun W (h1 : SbsAt W sv su) (h2 : FdsAt W fv fd) (e : Env W) => own_mcheck tz st ti bl fr sv fv su fd W h1 h2 hx hl e
  clear hs hf
  by_cases hz : maE fr tz st ti su fd = 0
  · rw [hz] at hc
    by_cases o1 : ch < 1
    · rw [onE_ch hz (by omega)]
      clear hz
      have HC := Lib.hid hc; clear hc
      go_enter Tryz.func86, Tryz.ntmps86
      go_wp2_with (first | (with_reducible refine ((HC.out _ HS.out HF.out (ENV.out.below HB.out)).mono ?_); rintro e w' ⟨rfl, hb⟩; replace HK := Lib.hid (HK.out.keep hb); clear k0 k1 k2 k3 k4 k5 k6 kf0 kf1 kf2 kf3 kf4 kf5 kf6; replace HS := Lib.hid (SbsAt.kept HS.out hb); replace HF := Lib.hid (FdsAt.kept HF.out hb); replace HB := Lib.hid (bch' HB.out hb); clear hb; obtain ⟨k0, k1, k2, k3, k4, k5, k6, kf0, kf1, kf2, kf3, kf4, kf5, kf6⟩ := HK.out.c7))
      go_ret
      exact ⟨rfl, HB.out⟩
    by_cases o2 : 999 < ch
    · rw [onE_ch hz (by omega)]
      clear hz
      have HC := Lib.hid hc; clear hc
      go_enter Tryz.func86, Tryz.ntmps86
      go_wp2_with (first | (with_reducible refine ((HC.out _ HS.out HF.out (ENV.out.below HB.out)).mono ?_); rintro e w' ⟨rfl, hb⟩; replace HK := Lib.hid (HK.out.keep hb); clear k0 k1 k2 k3 k4 k5 k6 kf0 kf1 kf2 kf3 kf4 kf5 kf6; replace HS := Lib.hid (SbsAt.kept HS.out hb); replace HF := Lib.hid (FdsAt.kept HF.out hb); replace HB := Lib.hid (bch' HB.out hb); clear hb; obtain ⟨k0, k1, k2, k3, k4, k5, k6, kf0, kf1, kf2, kf3, kf4, kf5, kf6⟩ := HK.out.c7))
      go_ret
      exact ⟨rfl, HB.out⟩
    rw [onE_ok hz (by omega)]
    clear hz
    have HC := Lib.hid hc; clear hc
    go_enter Tryz.func86, Tryz.ntmps86
    go_wp2_with (first | (with_reducible refine ((HC.out _ HS.out HF.out (ENV.out.below HB.out)).mono ?_); rintro e w' ⟨rfl, hb⟩; replace HK := Lib.hid (HK.out.keep hb); clear k0 k1 k2 k3 k4 k5 k6 kf0 kf1 kf2 kf3 kf4 kf5 kf6; replace HS := Lib.hid (SbsAt.kept HS.out hb); replace HF := Lib.hid (FdsAt.kept HF.out hb); replace HB := Lib.hid (bch' HB.out hb); clear hb; obtain ⟨k0, k1, k2, k3, k4, k5, k6, kf0, kf1, kf2, kf3, kf4, kf5, kf6⟩ := HK.out.c7))
    go_ret
    exact ⟨rfl, HB.out⟩
  · rw [onE_ma hz]
    have hne : ((maE fr tz st ti su fd : Int) != 0) = true := by simpa using hz
    clear hz
    generalize maE fr tz st ti su fd = m at *
    have HC := Lib.hid hc; clear hc
    go_enter Tryz.func86, Tryz.ntmps86
    go_wp2_with (first | (with_reducible refine ((HC.out _ HS.out HF.out (ENV.out.below HB.out)).mono ?_); rintro e w' ⟨rfl, hb⟩; replace HK := Lib.hid (HK.out.keep hb); clear k0 k1 k2 k3 k4 k5 k6 kf0 kf1 kf2 kf3 kf4 kf5 kf6; replace HS := Lib.hid (SbsAt.kept HS.out hb); replace HF := Lib.hid (FdsAt.kept HF.out hb); replace HB := Lib.hid (bch' HB.out hb); clear hb; obtain ⟨k0, k1, k2, k3, k4, k5, k6, kf0, kf1, kf2, kf3, kf4, kf5, kf6⟩ := HK.out.c7))
    go_ret
    exact ⟨rfl, HB.out⟩

set_option maxRecDepth 100000 in
set_option maxHeartbeats 4000000 in
theorem own_mgrandH (tz st ti : Int) (bl : Bool) (fr : Txt) (sv fv : Value) (t : Int) (w : World) (hz : glE fr tz st ti = 0) (hx : fr.length ≤ 60) (env : Env w) :
    Calls Tryz.prog 88 #[.agg #[.string ⟨(fr).toArray⟩, .int .i64 tz, .int .i64 st, .int .i64 ti, .bool (bl), sv, fv], .int .i64 t] w fun e w' => e = .returned (.tuple #[.string ⟨(showR (mainQ fr tz st ti bl t)).toArray⟩, .int .i64 0]) ∧ Below w.heap.size w w' := by
  have ENV := Lib.hid env; clear env
  cases bl
  · have HK := Lib.hid (Blk.new w 145 #[.string ⟨(fr).toArray⟩, .int .i64 tz, .int .i64 st, .int .i64 ti, .bool false, sv, fv])
    have HB := Lib.hid ((Below.refl w.heap.size w).alloc (Nat.le_refl _) (.cells #[.string ⟨(fr).toArray⟩, .int .i64 tz, .int .i64 st, .int .i64 ti, .bool false, sv, fv] 145))
    obtain ⟨k0, k1, k2, k3, k4, k5, k6, kf0, kf1, kf2, kf3, kf4, kf5, kf6⟩ := HK.out.c7
    have hg := fun W (e : Env W) => own_gat fr tz st ti t W hz (by omega) e
    have hw := fun W (e : Env W) => own_whole 65535 W (by omega) (by omega) e
    rw [show itoa 65535 = [54, 53, 53, 51, 53] by decide +kernel] at hw
    obtain ⟨q, e1, e2, hq, h2, h3, h4⟩ := glq hz
    have fl : Fits 182 (glV (valR fr) tz st ti t) := by rw [e2]; exact glV_fits t (fits_of_len (k := 60) (by rw [← e1]; exact hx)) h2.1 h2.2 h3.1 h3.2 h4.2
    have hd := fun W (e : Env W) => own_rdiv (showR (glV (valR fr) tz st ti t)) (showR ((65535 : Int) : Rat)) W e (len_ok fl (by omega)) (len_ok f65 (by omega))
    rw [div_gen fl f65 (by omega) k65_ne, k65] at hd
    dsimp only at hd
    rw [show mainQ fr tz st ti false t = glV (valR fr) tz st ti t / ((65535 : Int) : Rat) from rfl]
    clear fl e1 e2 hq h2 h3 h4 q
    generalize showR (glV (valR fr) tz st ti t / ((65535 : Int) : Rat)) = t2 at *
    generalize showR (glV (valR fr) tz st ti t) = t1 at *
    have HG := Lib.hid hg; clear hg
    have HW := Lib.hid hw; clear hw
    have HD := Lib.hid hd; clear hd
    go_enter Tryz.func88, Tryz.ntmps88
    go_wp2_with (first | (with_reducible refine ((HG.out _ (ENV.out.below HB.out)).mono ?_); rintro e w' ⟨rfl, hb⟩; replace HK := Lib.hid (HK.out.keep hb); clear k0 k1 k2 k3 k4 k5 k6 kf0 kf1 kf2 kf3 kf4 kf5 kf6; replace HB := Lib.hid (bch' HB.out hb); clear hb; obtain ⟨k0, k1, k2, k3, k4, k5, k6, kf0, kf1, kf2, kf3, kf4, kf5, kf6⟩ := HK.out.c7) | (with_reducible refine ((HW.out _ (ENV.out.below HB.out)).mono ?_); rintro e w' ⟨rfl, hb⟩; replace HK := Lib.hid (HK.out.keep hb); clear k0 k1 k2 k3 k4 k5 k6 kf0 kf1 kf2 kf3 kf4 kf5 kf6; replace HB := Lib.hid (bch' HB.out hb); clear hb; obtain ⟨k0, k1, k2, k3, k4, k5, k6, kf0, kf1, kf2, kf3, kf4, kf5, kf6⟩ := HK.out.c7) | (with_reducible refine ((HD.out _ (ENV.out.below HB.out)).mono ?_); rintro e w' ⟨rfl, hb⟩; replace HK := Lib.hid (HK.out.keep hb); clear k0 k1 k2 k3 k4 k5 k6 kf0 kf1 kf2 kf3 kf4 kf5 kf6; replace HB := Lib.hid (bch' HB.out hb); clear hb; obtain ⟨k0, k1, k2, k3, k4, k5, k6, kf0, kf1, kf2, kf3, kf4, kf5, kf6⟩ := HK.out.c7))
    go_ret2
    exact ⟨rfl, HB.out⟩
  · have HK := Lib.hid (Blk.new w 145 #[.string ⟨(fr).toArray⟩, .int .i64 tz, .int .i64 st, .int .i64 ti, .bool true, sv, fv])
    have HB := Lib.hid ((Below.refl w.heap.size w).alloc (Nat.le_refl _) (.cells #[.string ⟨(fr).toArray⟩, .int .i64 tz, .int .i64 st, .int .i64 ti, .bool true, sv, fv] 145))
    obtain ⟨k0, k1, k2, k3, k4, k5, k6, kf0, kf1, kf2, kf3, kf4, kf5, kf6⟩ := HK.out.c7
    rw [show mainQ fr tz st ti true t = 0 from rfl, showR_zero]
    have hw := fun W (e : Env W) => own_whole 0 W (by omega) (by omega) e
    rw [show itoa 0 = [48] by decide +kernel] at hw
    have HW := Lib.hid hw; clear hw
    go_enter Tryz.func88, Tryz.ntmps88
    go_wp2_with (first | (with_reducible refine ((HW.out _ (ENV.out.below HB.out)).mono ?_); rintro e w' ⟨rfl, hb⟩; replace HK := Lib.hid (HK.out.keep hb); clear k0 k1 k2 k3 k4 k5 k6 kf0 kf1 kf2 kf3 kf4 kf5 kf6; replace HB := Lib.hid (bch' HB.out hb); clear hb; obtain ⟨k0, k1, k2, k3, k4, k5, k6, kf0, kf1, kf2, kf3, kf4, kf5, kf6⟩ := HK.out.c7))
    go_ret2
    exact ⟨rfl, HB.out⟩

set_option maxRecDepth 100000 in
set_option maxHeartbeats 4000000 in
theorem own_mgrand_ok (tz st ti : Int) (bl : Bool) (fr : Txt) (sv fv : Value) (su : List Sb) (fd : List Fdr) (t : Int) (w : World) (hs : SbsAt w sv su) (hf : FdsAt w fv fd) (hx : fr.length ≤ 60) (hl : ∀ i, i < fd.length → (fdv fd i).fr.length ≤ 60) (hz : maE fr tz st ti su fd = 0) (env : Env w) :
    Calls Tryz.prog 77 #[.agg #[.string ⟨(fr).toArray⟩, .int .i64 tz, .int .i64 st, .int .i64 ti, .bool (bl), sv, fv], .int .i64 t] w fun e w' => e = .returned (.tuple #[.string ⟨(showR (mainQ fr tz st ti bl t)).toArray⟩, .int .i64 0]) ∧ Below w.heap.size w w' := by
  have ENV := Lib.hid env; clear env
  have HK := Lib.hid (Blk.new w 28 #[.string ⟨(fr).toArray⟩, .int .i64 tz, .int .i64 st, .int .i64 ti, .bool (bl), sv, fv])
  have HB := Lib.hid ((Below.refl w.heap.size w).alloc (Nat.le_refl _) (.cells #[.string ⟨(fr).toArray⟩, .int .i64 tz, .int .i64 st, .int .i64 ti, .bool (bl), sv, fv] 28))
  obtain ⟨k0, k1, k2, k3, k4, k5, k6, kf0, kf1, kf2, kf3, kf4, kf5, kf6⟩ := HK.out.c7
  have hal := (Below.refl w.heap.size w).alloc (Nat.le_refl _) (.cells #[.string ⟨(fr).toArray⟩, .int .i64 tz, .int .i64 st, .int .i64 ti, .bool (bl), sv, fv] 28)
  have HS := Lib.hid (SbsAt.kept hs hal)
  have HF := Lib.hid (FdsAt.kept hf hal)
  clear hal
  have hc := fun W (h1 : SbsAt W sv su) (h2 : FdsAt W fv fd) (e : Env W) => own_mcheck tz st ti bl fr sv fv su fd W h1 h2 (by omega) (fun i hi => Nat.le_trans (hl i hi) (by omega)) e
  clear hs hf
  rw [hz] at hc
  have hg := fun W (e : Env W) => own_mgrandH tz st ti bl fr sv fv t W (maE_zero hz).1 hx e
  clear hz
  generalize showR (mainQ fr tz st ti bl t) = tr at *
  have HC := Lib.hid hc; clear hc
  have HG := Lib.hid hg; clear hg
  go_enter Tryz.func77, Tryz.ntmps77
  go_wp2_with (first | (with_reducible refine ((HC.out _ HS.out HF.out (ENV.out.below HB.out)).mono ?_); rintro e w' ⟨rfl, hb⟩; replace HK := Lib.hid (HK.out.keep hb); clear k0 k1 k2 k3 k4 k5 k6 kf0 kf1 kf2 kf3 kf4 kf5 kf6; replace HS := Lib.hid (SbsAt.kept HS.out hb); replace HF := Lib.hid (FdsAt.kept HF.out hb); replace HB := Lib.hid (bch' HB.out hb); clear hb; obtain ⟨k0, k1, k2, k3, k4, k5, k6, kf0, kf1, kf2, kf3, kf4, kf5, kf6⟩ := HK.out.c7) | (with_reducible refine ((HG.out _ (ENV.out.below HB.out)).mono ?_); rintro e w' ⟨rfl, hb⟩; replace HK := Lib.hid (HK.out.keep hb); clear k0 k1 k2 k3 k4 k5 k6 kf0 kf1 kf2 kf3 kf4 kf5 kf6; replace HS := Lib.hid (SbsAt.kept HS.out hb); replace HF := Lib.hid (FdsAt.kept HF.out hb); replace HB := Lib.hid (bch' HB.out hb); clear hb; obtain ⟨k0, k1, k2, k3, k4, k5, k6, kf0, kf1, kf2, kf3, kf4, kf5, kf6⟩ := HK.out.c7))
  go_ret2
  exact ⟨rfl, HB.out⟩

set_option maxRecDepth 100000 in
set_option maxHeartbeats 4000000 in
theorem own_mgrand_bad (tz st ti : Int) (bl : Bool) (fr : Txt) (sv fv : Value) (su : List Sb) (fd : List Fdr) (t : Int) (w : World) (hs : SbsAt w sv su) (hf : FdsAt w fv fd) (hx : fr.length ≤ 60) (hl : ∀ i, i < fd.length → (fdv fd i).fr.length ≤ 60) (hz : ¬ maE fr tz st ti su fd = 0) (env : Env w) :
    Calls Tryz.prog 77 #[.agg #[.string ⟨(fr).toArray⟩, .int .i64 tz, .int .i64 st, .int .i64 ti, .bool (bl), sv, fv], .int .i64 t] w fun e w' => e = .returned (.tuple #[.string ⟨([]).toArray⟩, .int .i64 (maE fr tz st ti su fd)]) ∧ Below w.heap.size w w' := by
  have ENV := Lib.hid env; clear env
  have HK := Lib.hid (Blk.new w 28 #[.string ⟨(fr).toArray⟩, .int .i64 tz, .int .i64 st, .int .i64 ti, .bool (bl), sv, fv])
  have HB := Lib.hid ((Below.refl w.heap.size w).alloc (Nat.le_refl _) (.cells #[.string ⟨(fr).toArray⟩, .int .i64 tz, .int .i64 st, .int .i64 ti, .bool (bl), sv, fv] 28))
  obtain ⟨k0, k1, k2, k3, k4, k5, k6, kf0, kf1, kf2, kf3, kf4, kf5, kf6⟩ := HK.out.c7
  have hal := (Below.refl w.heap.size w).alloc (Nat.le_refl _) (.cells #[.string ⟨(fr).toArray⟩, .int .i64 tz, .int .i64 st, .int .i64 ti, .bool (bl), sv, fv] 28)
  have HS := Lib.hid (SbsAt.kept hs hal)
  have HF := Lib.hid (FdsAt.kept hf hal)
  clear hal
  have hc := fun W (h1 : SbsAt W sv su) (h2 : FdsAt W fv fd) (e : Env W) => own_mcheck tz st ti bl fr sv fv su fd W h1 h2 (by omega) (fun i hi => Nat.le_trans (hl i hi) (by omega)) e
  clear hs hf
  have hne : ((maE fr tz st ti su fd : Int) != 0) = true := by simpa using hz
  clear hz
  generalize maE fr tz st ti su fd = m at *
  have HC := Lib.hid hc; clear hc
  go_enter Tryz.func77, Tryz.ntmps77
  go_wp2_with (first | (with_reducible refine ((HC.out _ HS.out HF.out (ENV.out.below HB.out)).mono ?_); rintro e w' ⟨rfl, hb⟩; replace HK := Lib.hid (HK.out.keep hb); clear k0 k1 k2 k3 k4 k5 k6 kf0 kf1 kf2 kf3 kf4 kf5 kf6; replace HS := Lib.hid (SbsAt.kept HS.out hb); replace HF := Lib.hid (FdsAt.kept HF.out hb); replace HB := Lib.hid (bch' HB.out hb); clear hb; obtain ⟨k0, k1, k2, k3, k4, k5, k6, kf0, kf1, kf2, kf3, kf4, kf5, kf6⟩ := HK.out.c7))
  go_ret2
  exact ⟨rfl, HB.out⟩
end Go.Proofs.YtkjelfmgnkkijaaGreatDoor
namespace Lum
open Go Go.RowKit Go.Shelf
open Go.Lib (decDigits itoa)
/-- The error of a number from 0 to a limit. -/
def wiE (v : Txt) (lim : Int) : Int := if ratCheck v ≠ 0 then ratCheck v else if valR v < 0 ∨ ((lim : Int) : Rat) < valR v then 2 else 0
theorem wiE_bad {v : Txt} {lim : Int} (h : ¬ ratCheck v = 0) : wiE v lim = ratCheck v := by unfold wiE; rw [if_pos h]
theorem wiE_out {q : Rat} {lim : Int} (h : ratCheck (showR q) = 0) (h2 : q < 0 ∨ ((lim : Int) : Rat) < q) : wiE (showR q) lim = 2 := by unfold wiE; rw [if_neg (by simpa using h), valR_showR, if_pos h2]
theorem wiE_in {q : Rat} {lim : Int} (h : ratCheck (showR q) = 0) (h2 : ¬ (q < 0 ∨ ((lim : Int) : Rat) < q)) : wiE (showR q) lim = 0 := by unfold wiE; rw [if_neg (by simpa using h), valR_showR, if_neg h2]
theorem wiE_zero {v : Txt} {lim : Int} (h : wiE v lim = 0) : ∃ q, v = showR q ∧ valR v = q ∧ 0 ≤ q ∧ q ≤ ((lim : Int) : Rat) := by
  by_cases h1 : ratCheck v = 0
  · obtain ⟨q, rfl, -⟩ := ratCheck_zero v h1
    by_cases h2 : q < 0 ∨ ((lim : Int) : Rat) < q
    · rw [wiE_out h1 h2] at h; omega
    · exact ⟨q, rfl, valR_showR q, Rat.not_lt.1 fun g => h2 (.inl g), Rat.not_lt.1 fun g => h2 (.inr g)⟩
  · rw [wiE_bad h1] at h; exact absurd h h1
/-- A level behind the masters. -/
def apT (v fa : Txt) (at_ : Int) : Txt × Int := if wiE v 65535 ≠ 0 then ([], wiE v 65535) else if wiE fa 1 ≠ 0 then ([], wiE fa 1) else if at_ < 0 ∨ 15 ≤ at_ then ([], 2) else if at_ ≠ 0 then (v, 0) else (showR (valR v * valR fa), 0)
theorem apT_v {v fa : Txt} {at_ : Int} (h : ¬ wiE v 65535 = 0) : apT v fa at_ = ([], wiE v 65535) := by unfold apT; rw [if_pos h]
theorem apT_f {v fa : Txt} {at_ : Int} (h : wiE v 65535 = 0) (h2 : ¬ wiE fa 1 = 0) : apT v fa at_ = ([], wiE fa 1) := by unfold apT; rw [if_neg (by simpa using h), if_pos h2]
theorem apT_at {v fa : Txt} {at_ : Int} (h : wiE v 65535 = 0) (h2 : wiE fa 1 = 0) (h3 : at_ < 0 ∨ 15 ≤ at_) : apT v fa at_ = ([], 2) := by unfold apT; rw [if_neg (by simpa using h), if_neg (by simpa using h2), if_pos h3]
theorem apT_no {v fa : Txt} {at_ : Int} (h : wiE v 65535 = 0) (h2 : wiE fa 1 = 0) (h3 : ¬ (at_ < 0 ∨ 15 ≤ at_)) (h4 : ¬ at_ = 0) : apT v fa at_ = (v, 0) := by unfold apT; rw [if_neg (by simpa using h), if_neg (by simpa using h2), if_neg h3, if_pos h4]
theorem apT_ok {v fa : Txt} {at_ : Int} (h : wiE v 65535 = 0) (h2 : wiE fa 1 = 0) (h3 : ¬ (at_ < 0 ∨ 15 ≤ at_)) (h4 : at_ = 0) : apT v fa at_ = (showR (valR v * valR fa), 0) := by unfold apT; rw [if_neg (by simpa using h), if_neg (by simpa using h2), if_neg h3, if_neg (by simpa using h4)]
end Lum
namespace Go.Proofs.YtkjelfmgnkkijaaGreatDoor
open Go.RowKit Go.Shelf Lum
open Go.Lib (decDigits itoa)
attribute [local go_sem] bs_get bs_extract_end bs_extract_from bs_extract bs_append

set_option maxRecDepth 100000 in
set_option maxHeartbeats 4000000 in
theorem own_mwithin (lim : Int) (v : Txt) (k : Nat) (w : World) (hx : v.length ≤ 100000) (hk : ∀ q, v = showR q → Fits k q) (hk2 : k ≤ 4000) (h0 : 0 ≤ lim) (h1 : lim ≤ 65535) (env : Env w) :
    Calls Tryz.prog 135 #[.string ⟨(v).toArray⟩, .int .i64 lim] w fun e w' => e = .returned (.int .i64 (wiE v lim)) ∧ Below w.heap.size w w' := by
  have ENV := Lib.hid env; clear env
  have HB := Lib.hid (Below.refl w.heap.size w)
  have hw0 := fun W (e : Env W) => own_whole 0 W (by omega) (by omega) e
  have hw1 := fun W (e : Env W) => own_whole lim W (by omega) (by omega) e
  have hc := fun W (e : Env W) => own_rcheck v W hx e
  rw [show itoa 0 = [48] by decide +kernel] at hw0
  rw [← showR_int] at hw1
  by_cases hz : ratCheck v = 0
  · obtain ⟨q, rfl, -⟩ := ratCheck_zero v hz
    have fq := hk q rfl
    have fm := fits_i64 lim (by omega) (by omega)
    have c1 := fun W (e : Env W) => own_rcompare (showR 0) (showR q) W e (len_ok fits_0 (by omega)) (len_ok fq (by omega))
    have c2 := fun W (e : Env W) => own_rcompare (showR q) (showR ((lim : Int) : Rat)) W e (len_ok fq (by omega)) (len_ok fm (by omega))
    rw [cmp_gen fits_0 fq (by omega), showR_zero] at c1
    rw [cmp_gen fq fm (by omega)] at c2
    dsimp only at c1 c2
    obtain ⟨s1, hs1⟩ : ∃ s, s = sgn 0 q := ⟨_, rfl⟩
    obtain ⟨s2, hs2⟩ : ∃ s, s = sgn q ((lim : Int) : Rat) := ⟨_, rfl⟩
    rw [← hs1] at c1
    rw [← hs2] at c2
    have HS1 := Lib.hid hs1; have HS2 := Lib.hid hs2; clear hs1 hs2
    rw [hz] at hc
    by_cases g1 : q < 0
    · rw [wiE_out hz (.inl g1)]
      have k1 : 0 < s1 := by rw [HS1.out]; exact (sgn_gt _ _).2 g1
      clear g1
      have HC := Lib.hid hc; clear hc
      have HW0 := Lib.hid hw0; clear hw0
      have HW1 := Lib.hid hw1; clear hw1
      have HC1 := Lib.hid c1; clear c1
      have HC2 := Lib.hid c2; clear c2
      clear hz fq fm hk hx
      generalize showR q = tq at *
      generalize showR ((lim : Int) : Rat) = tl at *
      go_enter Tryz.func135, Tryz.ntmps135
      go_wp2_with (first | (with_reducible refine ((HC.out _ (ENV.out.below HB.out)).mono ?_); rintro e w' ⟨rfl, hb⟩; replace HB := Lib.hid (bch' HB.out hb); clear hb) | (with_reducible refine ((HW0.out _ (ENV.out.below HB.out)).mono ?_); rintro e w' ⟨rfl, hb⟩; replace HB := Lib.hid (bch' HB.out hb); clear hb) | (with_reducible refine ((HW1.out _ (ENV.out.below HB.out)).mono ?_); rintro e w' ⟨rfl, hb⟩; replace HB := Lib.hid (bch' HB.out hb); clear hb) | (with_reducible refine ((HC1.out _ (ENV.out.below HB.out)).mono ?_); rintro e w' ⟨rfl, hb⟩; replace HB := Lib.hid (bch' HB.out hb); clear hb) | (with_reducible refine ((HC2.out _ (ENV.out.below HB.out)).mono ?_); rintro e w' ⟨rfl, hb⟩; replace HB := Lib.hid (bch' HB.out hb); clear hb))
      go_ret
      exact ⟨rfl, HB.out⟩
    have k1 : ¬ 0 < s1 := by rw [HS1.out]; exact mt (sgn_gt _ _).1 g1
    by_cases g2 : ((lim : Int) : Rat) < q
    · rw [wiE_out hz (.inr g2)]
      have k2 : 0 < s2 := by rw [HS2.out]; exact (sgn_gt _ _).2 g2
      clear g1 g2
      have HC := Lib.hid hc; clear hc
      have HW0 := Lib.hid hw0; clear hw0
      have HW1 := Lib.hid hw1; clear hw1
      have HC1 := Lib.hid c1; clear c1
      have HC2 := Lib.hid c2; clear c2
      clear hz fq fm hk hx
      generalize showR q = tq at *
      generalize showR ((lim : Int) : Rat) = tl at *
      go_enter Tryz.func135, Tryz.ntmps135
      go_wp2_with (first | (with_reducible refine ((HC.out _ (ENV.out.below HB.out)).mono ?_); rintro e w' ⟨rfl, hb⟩; replace HB := Lib.hid (bch' HB.out hb); clear hb) | (with_reducible refine ((HW0.out _ (ENV.out.below HB.out)).mono ?_); rintro e w' ⟨rfl, hb⟩; replace HB := Lib.hid (bch' HB.out hb); clear hb) | (with_reducible refine ((HW1.out _ (ENV.out.below HB.out)).mono ?_); rintro e w' ⟨rfl, hb⟩; replace HB := Lib.hid (bch' HB.out hb); clear hb) | (with_reducible refine ((HC1.out _ (ENV.out.below HB.out)).mono ?_); rintro e w' ⟨rfl, hb⟩; replace HB := Lib.hid (bch' HB.out hb); clear hb) | (with_reducible refine ((HC2.out _ (ENV.out.below HB.out)).mono ?_); rintro e w' ⟨rfl, hb⟩; replace HB := Lib.hid (bch' HB.out hb); clear hb))
      go_ret
      exact ⟨rfl, HB.out⟩
    have k2 : ¬ 0 < s2 := by rw [HS2.out]; exact mt (sgn_gt _ _).1 g2
    rw [wiE_in hz (fun h => h.elim g1 g2)]
    clear g1 g2
    have HC := Lib.hid hc; clear hc
    have HW0 := Lib.hid hw0; clear hw0
    have HW1 := Lib.hid hw1; clear hw1
    have HC1 := Lib.hid c1; clear c1
    have HC2 := Lib.hid c2; clear c2
    clear hz fq fm hk hx
    generalize showR q = tq at *
    generalize showR ((lim : Int) : Rat) = tl at *
    go_enter Tryz.func135, Tryz.ntmps135
    go_wp2_with (first | (with_reducible refine ((HC.out _ (ENV.out.below HB.out)).mono ?_); rintro e w' ⟨rfl, hb⟩; replace HB := Lib.hid (bch' HB.out hb); clear hb) | (with_reducible refine ((HW0.out _ (ENV.out.below HB.out)).mono ?_); rintro e w' ⟨rfl, hb⟩; replace HB := Lib.hid (bch' HB.out hb); clear hb) | (with_reducible refine ((HW1.out _ (ENV.out.below HB.out)).mono ?_); rintro e w' ⟨rfl, hb⟩; replace HB := Lib.hid (bch' HB.out hb); clear hb) | (with_reducible refine ((HC1.out _ (ENV.out.below HB.out)).mono ?_); rintro e w' ⟨rfl, hb⟩; replace HB := Lib.hid (bch' HB.out hb); clear hb) | (with_reducible refine ((HC2.out _ (ENV.out.below HB.out)).mono ?_); rintro e w' ⟨rfl, hb⟩; replace HB := Lib.hid (bch' HB.out hb); clear hb))
    go_ret
    exact ⟨rfl, HB.out⟩
  · rw [wiE_bad hz]
    have hne : ((ratCheck v : Int) != 0) = true := by simpa using hz
    clear hz
    generalize ratCheck v = m at *
    have HC := Lib.hid hc; clear hc
    have HW0 := Lib.hid hw0; clear hw0
    have HW1 := Lib.hid hw1; clear hw1
    go_enter Tryz.func135, Tryz.ntmps135
    go_wp2_with (first | (with_reducible refine ((HC.out _ (ENV.out.below HB.out)).mono ?_); rintro e w' ⟨rfl, hb⟩; replace HB := Lib.hid (bch' HB.out hb); clear hb))
    go_ret
    exact ⟨rfl, HB.out⟩

set_option maxRecDepth 100000 in
set_option maxHeartbeats 4000000 in
theorem own_mapply (at_ : Int) (v fa : Txt) (k l : Nat) (w : World) (hx : v.length ≤ 100000) (hy : fa.length ≤ 100000) (hk : ∀ q, v = showR q → Fits k q) (hl : ∀ q, fa = showR q → Fits l q) (hkl : k + l ≤ 4000) (env : Env w) :
    Calls Tryz.prog 78 #[.string ⟨(v).toArray⟩, .string ⟨(fa).toArray⟩, .int .i64 at_] w fun e w' => e = .returned (.tuple #[.string ⟨((apT v fa at_).1).toArray⟩, .int .i64 ((apT v fa at_).2)]) ∧ Below w.heap.size w w' := by
  have ENV := Lib.hid env; clear env
  have HB := Lib.hid (Below.refl w.heap.size w)
  have ha := fun W (e : Env W) => own_mwithin 65535 v k W hx hk (by omega) (by omega) (by omega) e
  have hb2 := fun W (e : Env W) => own_mwithin 1 fa l W hy hl (by omega) (by omega) (by omega) e
  by_cases z1 : wiE v 65535 = 0
  · rw [z1] at ha
    by_cases z2 : wiE fa 1 = 0
    · rw [z2] at hb2
      by_cases o1 : at_ < 0
      · rw [apT_at z1 z2 (by omega)]
        clear z1 z2
        have HA := Lib.hid ha; clear ha
        have HB2 := Lib.hid hb2; clear hb2
        go_enter Tryz.func78, Tryz.ntmps78
        go_wp2_with (first | (with_reducible refine ((HA.out _ (ENV.out.below HB.out)).mono ?_); rintro e w' ⟨rfl, hb⟩; replace HB := Lib.hid (bch' HB.out hb); clear hb) | (with_reducible refine ((HB2.out _ (ENV.out.below HB.out)).mono ?_); rintro e w' ⟨rfl, hb⟩; replace HB := Lib.hid (bch' HB.out hb); clear hb) | (with_reducible refine ((HMU.out _ (ENV.out.below HB.out)).mono ?_); rintro e w' ⟨rfl, hb⟩; replace HB := Lib.hid (bch' HB.out hb); clear hb))
        go_ret2
        exact ⟨rfl, HB.out⟩
      by_cases o2 : 15 ≤ at_
      · rw [apT_at z1 z2 (by omega)]
        clear z1 z2
        have HA := Lib.hid ha; clear ha
        have HB2 := Lib.hid hb2; clear hb2
        go_enter Tryz.func78, Tryz.ntmps78
        go_wp2_with (first | (with_reducible refine ((HA.out _ (ENV.out.below HB.out)).mono ?_); rintro e w' ⟨rfl, hb⟩; replace HB := Lib.hid (bch' HB.out hb); clear hb) | (with_reducible refine ((HB2.out _ (ENV.out.below HB.out)).mono ?_); rintro e w' ⟨rfl, hb⟩; replace HB := Lib.hid (bch' HB.out hb); clear hb) | (with_reducible refine ((HMU.out _ (ENV.out.below HB.out)).mono ?_); rintro e w' ⟨rfl, hb⟩; replace HB := Lib.hid (bch' HB.out hb); clear hb))
        go_ret2
        exact ⟨rfl, HB.out⟩
      by_cases o3 : at_ = 0
      · rw [apT_ok z1 z2 (by omega) o3]
        obtain ⟨x, rfl, e1, -, -⟩ := wiE_zero z1
        obtain ⟨y, rfl, e2, -, -⟩ := wiE_zero z2
        rw [e1, e2]
        have hmu := fun W (e : Env W) => own_rmul (showR x) (showR y) W e hx hy
        rw [mul_gen (hk x rfl) (hl y rfl) (by omega)] at hmu
        dsimp only at hmu
        have o4 : ((at_ : Int) != 0) = false := by simpa using o3
        clear z1 z2 e1 e2 hk hl o3
        generalize showR (x * y) = t3 at *
        generalize showR x = t1 at *
        generalize showR y = t2 at *
        have HA := Lib.hid ha; clear ha
        have HB2 := Lib.hid hb2; clear hb2
        have HMU := Lib.hid hmu; clear hmu
        go_enter Tryz.func78, Tryz.ntmps78
        go_wp2_with (first | (with_reducible refine ((HA.out _ (ENV.out.below HB.out)).mono ?_); rintro e w' ⟨rfl, hb⟩; replace HB := Lib.hid (bch' HB.out hb); clear hb) | (with_reducible refine ((HB2.out _ (ENV.out.below HB.out)).mono ?_); rintro e w' ⟨rfl, hb⟩; replace HB := Lib.hid (bch' HB.out hb); clear hb) | (with_reducible refine ((HMU.out _ (ENV.out.below HB.out)).mono ?_); rintro e w' ⟨rfl, hb⟩; replace HB := Lib.hid (bch' HB.out hb); clear hb))
        go_ret2
        exact ⟨rfl, HB.out⟩
      · rw [apT_no z1 z2 (by omega) o3]
        have o4 : ((at_ : Int) != 0) = true := by simpa using o3
        clear z1 z2 o3
        have HA := Lib.hid ha; clear ha
        have HB2 := Lib.hid hb2; clear hb2
        go_enter Tryz.func78, Tryz.ntmps78
        go_wp2_with (first | (with_reducible refine ((HA.out _ (ENV.out.below HB.out)).mono ?_); rintro e w' ⟨rfl, hb⟩; replace HB := Lib.hid (bch' HB.out hb); clear hb) | (with_reducible refine ((HB2.out _ (ENV.out.below HB.out)).mono ?_); rintro e w' ⟨rfl, hb⟩; replace HB := Lib.hid (bch' HB.out hb); clear hb) | (with_reducible refine ((HMU.out _ (ENV.out.below HB.out)).mono ?_); rintro e w' ⟨rfl, hb⟩; replace HB := Lib.hid (bch' HB.out hb); clear hb))
        go_ret2
        exact ⟨rfl, HB.out⟩
    · rw [apT_f z1 z2]
      have hne : ((wiE fa 1 : Int) != 0) = true := by simpa using z2
      clear z1 z2
      generalize wiE fa 1 = m at *
      have HA := Lib.hid ha; clear ha
      have HB2 := Lib.hid hb2; clear hb2
      go_enter Tryz.func78, Tryz.ntmps78
      go_wp2_with (first | (with_reducible refine ((HA.out _ (ENV.out.below HB.out)).mono ?_); rintro e w' ⟨rfl, hb⟩; replace HB := Lib.hid (bch' HB.out hb); clear hb) | (with_reducible refine ((HB2.out _ (ENV.out.below HB.out)).mono ?_); rintro e w' ⟨rfl, hb⟩; replace HB := Lib.hid (bch' HB.out hb); clear hb) | (with_reducible refine ((HMU.out _ (ENV.out.below HB.out)).mono ?_); rintro e w' ⟨rfl, hb⟩; replace HB := Lib.hid (bch' HB.out hb); clear hb))
      go_ret2
      exact ⟨rfl, HB.out⟩
  · rw [apT_v z1]
    have hne : ((wiE v 65535 : Int) != 0) = true := by simpa using z1
    clear z1
    generalize wiE v 65535 = m at *
    have HA := Lib.hid ha; clear ha
    have HB2 := Lib.hid hb2; clear hb2
    go_enter Tryz.func78, Tryz.ntmps78
    go_wp2_with (first | (with_reducible refine ((HA.out _ (ENV.out.below HB.out)).mono ?_); rintro e w' ⟨rfl, hb⟩; replace HB := Lib.hid (bch' HB.out hb); clear hb) | (with_reducible refine ((HB2.out _ (ENV.out.below HB.out)).mono ?_); rintro e w' ⟨rfl, hb⟩; replace HB := Lib.hid (bch' HB.out hb); clear hb) | (with_reducible refine ((HMU.out _ (ENV.out.below HB.out)).mono ?_); rintro e w' ⟨rfl, hb⟩; replace HB := Lib.hid (bch' HB.out hb); clear hb))
    go_ret2
    exact ⟨rfl, HB.out⟩

set_option maxRecDepth 100000 in
set_option maxHeartbeats 4000000 in
theorem cl_mfactor (nu pr ch t : Int) (inh : Bool) (gs : List Gn) (fd : List Fdr) (gv fv : Value) (H C T_ : Nat) (w : World) (hv : GnsAt w gv gs) (hf : FdsAt w fv fd) (hs : sbE ⟨nu, pr, inh, gs⟩ = 0) (hd : facE fd = 0) (hl : ∀ i, i < fd.length → (fdv fd i).fr.length ≤ 60) (hch : parE ch 0 = 0) (hH : H < w.heap.size) (hC : C < w.heap.size) (hT : T_ < w.heap.size) (c1 : w.cell? ⟨H, 6, none⟩ = some fv) (c2 : w.cell? ⟨C, 0, none⟩ = some (.int .i64 ch)) (c3 : w.cell? ⟨T_, 0, none⟩ = some (.int .i64 t)) (env : Env w) :
    Calls Tryz.prog 90 #[.agg #[.int .i64 nu, .int .i64 pr, .bool (inh), gv], .pointer (some ⟨H, 0, none⟩), .pointer (some ⟨C, 0, none⟩), .pointer (some ⟨T_, 0, none⟩)] w fun e w' => e = .returned (.tuple #[.string ⟨(showR (sclQ ⟨nu, pr, inh, gs⟩ fd ch t)).toArray⟩, .int .i64 0]) ∧ Below w.heap.size w w' := by
  have ENV := Lib.hid env; clear env
  have hfa := fun W (h1 : GnsAt W gv gs) (h2 : FdsAt W fv fd) (e : Env W) => own_sfactor nu pr ch t inh gs fd gv fv W h1 h2 hs hd hl hch e
  have hal := (Below.refl w.heap.size w).alloc (Nat.le_refl _) (.cells #[.int .i64 nu, .int .i64 pr, .bool (inh), gv] 58)
  have HV := Lib.hid (GnsAt.kept hv hal)
  have HF := Lib.hid (FdsAt.kept hf hal)
  have q1 := (hal.cell (p := ⟨H, 6, none⟩) hH).trans c1
  have q2 := (hal.cell (p := ⟨C, 0, none⟩) hC).trans c2
  have q3 := (hal.cell (p := ⟨T_, 0, none⟩) hT).trans c3
  clear hal c1 c2 c3 hv hf hs hd hl hch
  have hH2 : H ≠ w.heap.size := by omega
  have hC2 : C ≠ w.heap.size := by omega
  have hT2 : T_ ≠ w.heap.size := by omega
  generalize showR (sclQ ⟨nu, pr, inh, gs⟩ fd ch t) = tr at *
  have HFA := Lib.hid hfa; clear hfa
  have HK := Lib.hid (Blk.new w 58 #[.int .i64 nu, .int .i64 pr, .bool (inh), gv])
  have HB := Lib.hid ((Below.refl w.heap.size w).alloc (Nat.le_refl _) (.cells #[.int .i64 nu, .int .i64 pr, .bool (inh), gv] 58))
  obtain ⟨k0, k1, k2, k3, kf0, kf1, kf2, kf3⟩ := HK.out.c4
  go_enter Tryz.func90, Tryz.ntmps90
  go_wp2_with fail
  refine ((HFA.out _ HV.out HF.out (ENV.out.below HB.out)).mono ?_)
  rintro e w2 ⟨rfl, hb⟩
  replace HB := Lib.hid (bch' HB.out hb); clear hb
  go_wp2_with fail
  go_ret2
  exact ⟨rfl, HB.out⟩
end Go.Proofs.YtkjelfmgnkkijaaGreatDoor
namespace Go.Proofs.YtkjelfmgnkkijaaGreatDoor
open Go.RowKit Go.Shelf Lum
open Go.Lib (decDigits itoa)
attribute [local go_sem] bs_get bs_extract_end bs_extract_from bs_extract bs_append

set_option maxRecDepth 100000 in
set_option maxHeartbeats 4000000 in
theorem own_mproduct (M : FuncId) (ca cb cc : Value) (a : Rat) (su : List Sb) (fd : List Fdr) (ch t : Int) (sv : Value) (w : World) (hv : SbsAt w sv su) (ha : Fits 187 a) (hs : TabOk su) (hf : FacOk fd) (hl : ∀ i, i < fd.length → (fdv fd i).fr.length ≤ 60) (hF : ∀ args w, (callFunc M args).run Tryz.prog w = .ok (.enter M args) w)
    (hcl : ∀ k, k < su.length → ∀ W gv, Below w.heap.size w W → GnsAt W gv (sbv su k).gs → Env W → Calls Tryz.prog M #[.agg #[.int .i64 (sbv su k).nu, .int .i64 (sbv su k).pr, .bool (sbv su k).inh, gv], ca, cb, cc] W fun e w' => e = .returned (.tuple #[.string ⟨(showR (sclQ (sbv su k) fd ch t)).toArray⟩, .int .i64 0]) ∧ Below W.heap.size W w') (env : Env w) :
    Calls Tryz.prog 89 #[.string ⟨(showR a).toArray⟩, sv, .func (.func M) #[] #[ca, cb, cc]] w fun e w' => e = .returned (.tuple #[.string ⟨(showR (facQ a su fd ch t su.length)).toArray⟩, .int .i64 0]) ∧ Below w.heap.size w w' := by
  have ENV := Lib.hid env; clear env
  obtain ⟨p, c, rfl, -, hv1⟩ := hv
  have hv2 := Lib.hid hv1; clear hv1
  have hcc := Lib.hid hcl; clear hcl
  have HB := Lib.hid (Below.refl w.heap.size w)
  go_enter Tryz.func89, Tryz.ntmps89
  go_wp2_with fail
  go_loopw [0, 14] (fun a0 i wr => ∃ k r : Nat, a0 = .string ⟨(showR (facQ a su fd ch t k)).toArray⟩ ∧ i = .int .i64 (k : Int) ∧ Hid (k + r = su.length) ∧ Hid (Below w.heap.size w wr)) (fun _ i _ => su.length - (intOf i).toNat)
  case atStart => exact ⟨0, su.length, rfl, rfl, Lib.hid (by omega), HB⟩
  case round =>
    obtain ⟨k, r, rfl, rfl, hkr, HB2⟩ := hrel
    clear HB
    have HB := HB2; clear HB2
    cases r with
    | zero =>
      have hlt : ¬ (k : Int) < (su.length : Int) := by have := hkr.out; omega
      obtain rfl : k = su.length := by have := hkr.out; omega
      go_wp2
      go_ret2
      exact ⟨rfl, HB.out⟩
    | succ r =>
      have h16 := hs.few
      have hkl : k < su.length := by have := hkr.out; omega
      have hlt : (k : Int) < (su.length : Int) := by omega
      obtain ⟨b, o, rfl, hb, hC⟩ := hv2.out (fun h => by subst h; simp at hkl)
      obtain ⟨x1, x2, x3, gv, x4, hgn⟩ := hC.below HB.out hb k hkl
      clear hC
      obtain ⟨pg, cg, rfl⟩ : ∃ pg cg, gv = .slice pg (sbv su k).gs.length cg := by obtain ⟨pg, cg, e, -⟩ := hgn; exact ⟨pg, cg, e⟩
      have hbr : b < wr.heap.size := by have := HB.out.size; omega
      have hun : IntKind.i64.wrap ((k : Int) + 1) = (k : Int) + 1 := IntWalk.i64_in _ (by omega)
      have hal := (Below.refl wr.heap.size wr).alloc (Nat.le_refl _) (.cells #[.int .i64 (sbv su k).nu, .int .i64 (sbv su k).pr, .bool (sbv su k).inh, (.slice pg (sbv su k).gs.length cg)] 58)
      have HGN := Lib.hid (hgn.kept hal)
      clear hgn
      have HG := Lib.hid (Blk.new wr 58 #[.int .i64 (sbv su k).nu, .int .i64 (sbv su k).pr, .bool (sbv su k).inh, (.slice pg (sbv su k).gs.length cg)])
      replace HB := Lib.hid (bch' HB.out hal)
      clear hal
      obtain ⟨g0, g1, g2, g3, gf0, gf1, gf2, gf3⟩ := HG.out.c4
      have hcq := fun W (h1 : Below w.heap.size w W) (h2 : GnsAt W (.slice pg (sbv su k).gs.length cg) (sbv su k).gs) (e : Env W) => hcc.out k hkl W (.slice pg (sbv su k).gs.length cg) h1 h2 e
      have f1 := facQ_fits ch t ha hs hf hl k (by omega)
      have f2 := sclQ_fits (s := sbv su k) (l := fd) (ch := ch) t (subOk (hs.ok k hkl)) hf hl
      have hmu := fun W (e : Env W) => own_rmul (showR (facQ a su fd ch t k)) (showR (sclQ (sbv su k) fd ch t)) W e (len_ok f1 (by omega)) (len_ok f2 (by omega))
      rw [mul_gen f1 f2 (by omega), ← facQ_succ a fd ch t hkl] at hmu
      dsimp only at hmu
      clear f1 f2
      generalize hq1 : showR (facQ a su fd ch t (k + 1)) = tk1 at hmu
      have HQ1 := Lib.hid hq1; clear hq1
      generalize showR (facQ a su fd ch t k) = tk at *
      generalize showR (sclQ (sbv su k) fd ch t) = ts at *
      have HCQ := Lib.hid hcq; clear hcq
      have HMU := Lib.hid hmu; clear hmu
      go_wp2_with (first | (with_reducible refine ((HCQ.out _ HB.out HGN.out (ENV.out.below HB.out)).mono ?_); rintro e w' ⟨rfl, hb⟩; replace HG := Lib.hid (HG.out.keep hb); clear g0 g1 g2 g3 gf0 gf1 gf2 gf3; replace HGN := Lib.hid (GnsAt.kept HGN.out hb); replace HB := Lib.hid (bch' HB.out hb); clear hb; obtain ⟨g0, g1, g2, g3, gf0, gf1, gf2, gf3⟩ := HG.out.c4) | (with_reducible refine ((HMU.out _ (ENV.out.below HB.out)).mono ?_); rintro e w' ⟨rfl, hb⟩; replace HG := Lib.hid (HG.out.keep hb); clear g0 g1 g2 g3 gf0 gf1 gf2 gf3; replace HB := Lib.hid (bch' HB.out hb); clear hb; obtain ⟨g0, g1, g2, g3, gf0, gf1, gf2, gf3⟩ := HG.out.c4))
      go_roundw
      case rel => exact ⟨k + 1, r, by rw [HQ1.out], by first | rfl | simp, Lib.hid (by have := hkr.out; omega), HB⟩
      case measure => first | (simp [intOf]; done) | (simp [intOf]; omega)

set_option maxRecDepth 100000 in
set_option maxHeartbeats 4000000 in
theorem own_mfactor_bad (tz st ti : Int) (bl : Bool) (fr : Txt) (sv fv : Value) (su : List Sb) (fd : List Fdr) (ch t : Int) (w : World) (hs : SbsAt w sv su) (hf : FdsAt w fv fd) (hx : fr.length ≤ 60) (hl : ∀ i, i < fd.length → (fdv fd i).fr.length ≤ 60) (hz : ¬ onE fr tz st ti su fd ch = 0) (env : Env w) :
    Calls Tryz.prog 26 #[.agg #[.string ⟨(fr).toArray⟩, .int .i64 tz, .int .i64 st, .int .i64 ti, .bool (bl), sv, fv], .int .i64 ch, .int .i64 t] w fun e w' => e = .returned (.tuple #[.string ⟨([]).toArray⟩, .int .i64 (onE fr tz st ti su fd ch)]) ∧ Below w.heap.size w w' := by
  have ENV := Lib.hid env; clear env
  have hon := fun W (h1 : SbsAt W sv su) (h2 : FdsAt W fv fd) (e : Env W) => own_mon tz st ti bl fr sv fv su fd ch W h1 h2 (by omega) (fun i hi => Nat.le_trans (hl i hi) (by omega)) e
  have hal := (((Below.refl w.heap.size w).alloc (Nat.le_refl _) (.cells #[.string ⟨(fr).toArray⟩, .int .i64 tz, .int .i64 st, .int .i64 ti, .bool (bl), sv, fv] 28)).alloc (by simp) (.cells #[.int .i64 ch] 3)).alloc (by simp; omega) (.cells #[.int .i64 t] 3)
  have HS := Lib.hid (SbsAt.kept hs hal)
  have HF := Lib.hid (FdsAt.kept hf hal)
  have HB := Lib.hid hal; clear hal hs hf
  have HK := Lib.hid (((Blk.new w 28 #[.string ⟨(fr).toArray⟩, .int .i64 tz, .int .i64 st, .int .i64 ti, .bool (bl), sv, fv]).alloc (.cells #[.int .i64 ch] 3)).alloc (.cells #[.int .i64 t] 3))
  have hR := (Blk.new (w.alloc (.cells #[.string ⟨(fr).toArray⟩, .int .i64 tz, .int .i64 st, .int .i64 ti, .bool (bl), sv, fv] 28)) 3 #[.int .i64 ch]).alloc (.cells #[.int .i64 t] 3)
  rw [World.size_alloc] at hR
  have HC := Lib.hid hR; clear hR
  have hR := Blk.new ((w.alloc (.cells #[.string ⟨(fr).toArray⟩, .int .i64 tz, .int .i64 st, .int .i64 ti, .bool (bl), sv, fv] 28)).alloc (.cells #[.int .i64 ch] 3)) 3 #[.int .i64 t]
  rw [World.size_alloc, World.size_alloc] at hR
  have HT := Lib.hid hR; clear hR
  obtain ⟨k0, k1, k2, k3, k4, k5, k6, kf0, kf1, kf2, kf3, kf4, kf5, kf6⟩ := HK.out.c7
  obtain ⟨c0, cf0⟩ := HC.out.c1
  obtain ⟨t0, tf0⟩ := HT.out.c1
  have hne : ((onE fr tz st ti su fd ch : Int) != 0) = true := by simpa using hz
  clear hz
  generalize onE fr tz st ti su fd ch = m at *
  have HON := Lib.hid hon; clear hon
  go_enter Tryz.func26, Tryz.ntmps26
  go_wp2_with (first | (with_reducible refine ((HON.out _ HS.out HF.out (ENV.out.below HB.out)).mono ?_); rintro e w' ⟨rfl, hb⟩; replace HK := Lib.hid (HK.out.keep hb); clear k0 k1 k2 k3 k4 k5 k6 kf0 kf1 kf2 kf3 kf4 kf5 kf6; replace HC := Lib.hid (HC.out.keep hb); clear c0 cf0; replace HT := Lib.hid (HT.out.keep hb); clear t0 tf0; replace HS := Lib.hid (SbsAt.kept HS.out hb); replace HF := Lib.hid (FdsAt.kept HF.out hb); replace HB := Lib.hid (bch' HB.out hb); clear hb; obtain ⟨k0, k1, k2, k3, k4, k5, k6, kf0, kf1, kf2, kf3, kf4, kf5, kf6⟩ := HK.out.c7; obtain ⟨c0, cf0⟩ := HC.out.c1; obtain ⟨t0, tf0⟩ := HT.out.c1))
  go_ret2
  exact ⟨rfl, HB.out⟩

set_option maxRecDepth 100000 in
set_option maxHeartbeats 4000000 in
theorem own_mfactor_ok (tz st ti : Int) (bl : Bool) (fr : Txt) (sv fv : Value) (su : List Sb) (fd : List Fdr) (ch t : Int) (w : World) (hs : SbsAt w sv su) (hf : FdsAt w fv fd) (hx : fr.length ≤ 60) (hl : ∀ i, i < fd.length → (fdv fd i).fr.length ≤ 60) (hz : onE fr tz st ti su fd ch = 0) (env : Env w) :
    Calls Tryz.prog 26 #[.agg #[.string ⟨(fr).toArray⟩, .int .i64 tz, .int .i64 st, .int .i64 ti, .bool (bl), sv, fv], .int .i64 ch, .int .i64 t] w fun e w' => e = .returned (.tuple #[.string ⟨(showR (facQ (mainQ fr tz st ti bl t) su fd ch t su.length)).toArray⟩, .int .i64 0]) ∧ Below w.heap.size w w' := by
  obtain ⟨ps, zs, rfl⟩ : ∃ ps zs, sv = .slice ps su.length zs := by obtain ⟨a, b, e, -⟩ := hs; exact ⟨a, b, e⟩
  obtain ⟨pf, zf, rfl⟩ : ∃ pf zf, fv = .slice pf fd.length zf := by obtain ⟨a, b, e, -⟩ := hf; exact ⟨a, b, e⟩
  have ENV := Lib.hid env; clear env
  obtain ⟨hm, hc0, hc1⟩ := onE_zero hz
  obtain ⟨m1, m2, m3⟩ := maE_zero hm
  have tok := tabOk m2
  have fok := facOk m3
  have hpc : parE ch 0 = 0 := parE_in (by omega)
  have hon := fun W (h1 : SbsAt W (.slice ps su.length zs) su) (h2 : FdsAt W (.slice pf fd.length zf) fd) (e : Env W) => own_mon tz st ti bl fr (.slice ps su.length zs) (.slice pf fd.length zf) su fd ch W h1 h2 (by omega) (fun i hi => Nat.le_trans (hl i hi) (by omega)) e
  rw [hz] at hon
  have hgr := fun W (e : Env W) => own_mgrandH tz st ti bl fr (.slice ps su.length zs) (.slice pf fd.length zf) t W m1 hx e
  have hpr := fun (H C T_ : Nat) W (h1 : SbsAt W (.slice ps su.length zs) su) (h2 : FdsAt W (.slice pf fd.length zf) fd) (e : Env W) (g1 : H < W.heap.size) (g2 : C < W.heap.size) (g3 : T_ < W.heap.size) (d1 : W.cell? ⟨H, 6, none⟩ = some (.slice pf fd.length zf)) (d2 : W.cell? ⟨C, 0, none⟩ = some (.int .i64 ch)) (d3 : W.cell? ⟨T_, 0, none⟩ = some (.int .i64 t)) => own_mproduct 90 (.pointer (some ⟨H, 0, none⟩)) (.pointer (some ⟨C, 0, none⟩)) (.pointer (some ⟨T_, 0, none⟩)) (mainQ fr tz st ti bl t) su fd ch t (.slice ps su.length zs) W h1 (mainQ_fits bl t m1 hx) tok fok hl (enters_of Tryz.func90 (by kernel_rfl) rfl) (fun k hk W2 gv hb hg e2 => cl_mfactor (sbv su k).nu (sbv su k).pr ch t (sbv su k).inh (sbv su k).gs fd gv (.slice pf fd.length zf) H C T_ W2 hg (FdsAt.kept h2 hb) (tok.ok k hk) m3 hl hpc (Nat.lt_of_lt_of_le g1 hb.size) (Nat.lt_of_lt_of_le g2 hb.size) (Nat.lt_of_lt_of_le g3 hb.size) ((hb.cell (p := ⟨H, 6, none⟩) g1).trans d1) ((hb.cell (p := ⟨C, 0, none⟩) g2).trans d2) ((hb.cell (p := ⟨T_, 0, none⟩) g3).trans d3) e2) e
  have hal := (((Below.refl w.heap.size w).alloc (Nat.le_refl _) (.cells #[.string ⟨(fr).toArray⟩, .int .i64 tz, .int .i64 st, .int .i64 ti, .bool (bl), (.slice ps su.length zs), (.slice pf fd.length zf)] 28)).alloc (by simp) (.cells #[.int .i64 ch] 3)).alloc (by simp; omega) (.cells #[.int .i64 t] 3)
  have HS := Lib.hid (SbsAt.kept hs hal)
  have HF := Lib.hid (FdsAt.kept hf hal)
  have HB := Lib.hid hal; clear hal hs hf
  have HK := Lib.hid (((Blk.new w 28 #[.string ⟨(fr).toArray⟩, .int .i64 tz, .int .i64 st, .int .i64 ti, .bool (bl), (.slice ps su.length zs), (.slice pf fd.length zf)]).alloc (.cells #[.int .i64 ch] 3)).alloc (.cells #[.int .i64 t] 3))
  have hR := (Blk.new (w.alloc (.cells #[.string ⟨(fr).toArray⟩, .int .i64 tz, .int .i64 st, .int .i64 ti, .bool (bl), (.slice ps su.length zs), (.slice pf fd.length zf)] 28)) 3 #[.int .i64 ch]).alloc (.cells #[.int .i64 t] 3)
  rw [World.size_alloc] at hR
  have HC := Lib.hid hR; clear hR
  have hR := Blk.new ((w.alloc (.cells #[.string ⟨(fr).toArray⟩, .int .i64 tz, .int .i64 st, .int .i64 ti, .bool (bl), (.slice ps su.length zs), (.slice pf fd.length zf)] 28)).alloc (.cells #[.int .i64 ch] 3)) 3 #[.int .i64 t]
  rw [World.size_alloc, World.size_alloc] at hR
  have HT := Lib.hid hR; clear hR
  obtain ⟨k0, k1, k2, k3, k4, k5, k6, kf0, kf1, kf2, kf3, kf4, kf5, kf6⟩ := HK.out.c7
  obtain ⟨c0, cf0⟩ := HC.out.c1
  obtain ⟨t0, tf0⟩ := HT.out.c1
  clear hz hm hc0 hc1 m1 m2 m3 tok fok hpc hl hx
  generalize showR (facQ (mainQ fr tz st ti bl t) su fd ch t su.length) = tr at *
  generalize showR (mainQ fr tz st ti bl t) = tm at *
  have HPR := Lib.hid hpr; clear hpr
  have HON := Lib.hid hon; clear hon
  have HGR := Lib.hid hgr; clear hgr
  go_enter Tryz.func26, Tryz.ntmps26
  go_wp2_with fail
  refine ((HON.out _ HS.out HF.out (ENV.out.below HB.out)).mono ?_)
  rintro e w2 ⟨rfl, hb⟩
  have hal := (Below.refl w2.heap.size w2).alloc (Nat.le_refl _) (.cells #[.string ⟨(fr).toArray⟩, .int .i64 tz, .int .i64 st, .int .i64 ti, .bool (bl), (.slice ps su.length zs), (.slice pf fd.length zf)] 145)
  have HKa := Lib.hid ((HK.out.keep hb).keep hal); replace HK := Lib.hid (HK.out.keep hb); clear k0 k1 k2 k3 k4 k5 k6 kf0 kf1 kf2 kf3 kf4 kf5 kf6
  have HCa := Lib.hid ((HC.out.keep hb).keep hal); replace HC := Lib.hid (HC.out.keep hb); clear c0 cf0
  have HTa := Lib.hid ((HT.out.keep hb).keep hal); replace HT := Lib.hid (HT.out.keep hb); clear t0 tf0
  replace HS := Lib.hid (SbsAt.kept (SbsAt.kept HS.out hb) hal)
  replace HF := Lib.hid (FdsAt.kept (FdsAt.kept HF.out hb) hal)
  replace HB := Lib.hid (bch' (bch' HB.out hb) hal)
  clear hb hal HON
  have HH := Lib.hid (Blk.new w2 145 #[.string ⟨(fr).toArray⟩, .int .i64 tz, .int .i64 st, .int .i64 ti, .bool (bl), (.slice ps su.length zs), (.slice pf fd.length zf)])
  obtain ⟨k0, k1, k2, k3, k4, k5, k6, kf0, kf1, kf2, kf3, kf4, kf5, kf6⟩ := HK.out.c7
  obtain ⟨c0, cf0⟩ := HC.out.c1
  obtain ⟨t0, tf0⟩ := HT.out.c1
  obtain ⟨ka0, ka1, ka2, ka3, ka4, ka5, ka6, kaf0, kaf1, kaf2, kaf3, kaf4, kaf5, kaf6⟩ := HKa.out.c7
  obtain ⟨ca0, caf0⟩ := HCa.out.c1
  obtain ⟨ta0, taf0⟩ := HTa.out.c1
  obtain ⟨h0, h1, h2, h3, h4, h5, h6, hf0, hf1, hf2, hf3, hf4, hf5, hf6⟩ := HH.out.c7
  go_wp2_with (first | (with_reducible refine ((HGR.out _ (ENV.out.below HB.out)).mono ?_); rintro e w' ⟨rfl, hb⟩; replace HKa := Lib.hid (HKa.out.keep hb); clear ka0 ka1 ka2 ka3 ka4 ka5 ka6 kaf0 kaf1 kaf2 kaf3 kaf4 kaf5 kaf6; replace HCa := Lib.hid (HCa.out.keep hb); clear ca0 caf0; replace HTa := Lib.hid (HTa.out.keep hb); clear ta0 taf0; replace HH := Lib.hid (HH.out.keep hb); clear h0 h1 h2 h3 h4 h5 h6 hf0 hf1 hf2 hf3 hf4 hf5 hf6; replace HS := Lib.hid (SbsAt.kept HS.out hb); replace HF := Lib.hid (FdsAt.kept HF.out hb); replace HB := Lib.hid (bch' HB.out hb); clear hb; obtain ⟨ka0, ka1, ka2, ka3, ka4, ka5, ka6, kaf0, kaf1, kaf2, kaf3, kaf4, kaf5, kaf6⟩ := HKa.out.c7; obtain ⟨ca0, caf0⟩ := HCa.out.c1; obtain ⟨ta0, taf0⟩ := HTa.out.c1; obtain ⟨h0, h1, h2, h3, h4, h5, h6, hf0, hf1, hf2, hf3, hf4, hf5, hf6⟩ := HH.out.c7))
  refine ((HPR.out _ _ _ _ HS.out HF.out (ENV.out.below HB.out) HH.out.lt HCa.out.lt HTa.out.lt h6 ca0 ta0).mono ?_)
  rintro e w3 ⟨rfl, hb⟩
  replace HB := Lib.hid (bch' HB.out hb); clear hb
  go_wp2_with fail
  go_ret2
  exact ⟨rfl, HB.out⟩
end Go.Proofs.YtkjelfmgnkkijaaGreatDoor
