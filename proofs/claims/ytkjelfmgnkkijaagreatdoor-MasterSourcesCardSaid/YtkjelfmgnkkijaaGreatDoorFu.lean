/-
  The law MasterSources.
-/
import Derived.Test.YtkjelfmgnkkijaaGreatDoorFo
import Derived.Test.YtkjelfmgnkkijaaGreatDoorMp
import Derived.Test.YtkjelfmgnkkijaaGreatDoorMl5
set_option linter.unusedVariables false
set_option linter.unusedSimpArgs false
namespace Lum
open Go Go.RowKit Go.Shelf
open Go.Lib (decDigits itoa)
theorem pt_at {l : List (Int × Int)} {k : Nat} (h : k < l.length) : l[k]'h = (pX l k, pY l k) := by unfold pX pY; rw [List.getElem?_eq_getElem h]; rfl
theorem pt_mem {l : List (Int × Int)} {k : Nat} (h : k < l.length) : (pX l k, pY l k) ∈ l := by rw [← pt_at h]; exact List.getElem_mem h
theorem pt_take {l : List (Int × Int)} {k : Nat} (h : k < l.length) : l.take k ++ [(pX l k, pY l k)] = l.take (k + 1) := by rw [List.take_succ_eq_append_getElem h, pt_at h]

theorem size_set7 (w : World) (n : Nat) (b0 b1 b2 b3 b4 b5 b6 : Value) : ((((((((w.setCell ⟨n, 0, none⟩ b0).setCell ⟨n, 1, none⟩ b1).setCell ⟨n, 2, none⟩ b2).setCell ⟨n, 3, none⟩ b3).setCell ⟨n, 4, none⟩ b4).setCell ⟨n, 5, none⟩ b5).setCell ⟨n, 6, none⟩ b6)).heap.size = w.heap.size := by simp only [World.size_setCell]
theorem onE_a (xs : List (Int × Int)) {fr : Txt} {tz st ti : Int} {su : List Sb} {fd : List Fdr} {ch : Int} (h : onE fr tz st ti su fd ch = 0) : onE (aFr xs fr) (aTo xs tz) (aZe xs st) (aZe xs ti) (aSu xs su) fd ch = 0 := by
  obtain ⟨h1, h2, h3⟩ := onE_zero h
  exact onE_ok (aMa xs h1) (by omega)
theorem facQ_good {fr : Txt} {tz st ti : Int} {su : List Sb} {fd : List Fdr} {ch : Int} (bl : Bool) (t : Int) (h : onE fr tz st ti su fd ch = 0) (hx : fr.length ≤ 60) (hl : ∀ i, i < fd.length → (fdv fd i).fr.length ≤ 60) :
    Fits 3600 (facQ (mainQ fr tz st ti bl t) su fd ch t su.length) ∧ 0 ≤ facQ (mainQ fr tz st ti bl t) su fd ch t su.length ∧ facQ (mainQ fr tz st ti bl t) su fd ch t su.length ≤ 1 := by
  obtain ⟨hm, -, -⟩ := onE_zero h
  obtain ⟨m1, m2, m3⟩ := maE_zero hm
  have tok := tabOk m2
  have fok := facOk m3
  have h16 := tok.few
  exact ⟨(facQ_fits ch t (mainQ_fits bl t m1 hx) tok fok hl su.length (Nat.le_refl _)).mono (by omega), facQ_01 ch t (mainQ_01 bl t m1).1 (mainQ_01 bl t m1).2 (fun j hj => subOk (tok.ok j hj)) fok su.length (Nat.le_refl _)⟩

theorem near_set7 (w : World) {n g : Nat} (hg : g ≠ n) (b0 b1 b2 b3 b4 b5 b6 : Value) : ((((((((w.setCell ⟨n, 0, none⟩ b0).setCell ⟨n, 1, none⟩ b1).setCell ⟨n, 2, none⟩ b2).setCell ⟨n, 3, none⟩ b3).setCell ⟨n, 4, none⟩ b4).setCell ⟨n, 5, none⟩ b5).setCell ⟨n, 6, none⟩ b6)).heap[g]? = w.heap[g]? := by
  rw [Below.heap_setCell _ _ _ _ hg, Below.heap_setCell _ _ _ _ hg, Below.heap_setCell _ _ _ _ hg, Below.heap_setCell _ _ _ _ hg, Below.heap_setCell _ _ _ _ hg, Below.heap_setCell _ _ _ _ hg, Below.heap_setCell _ _ _ _ hg]
end Lum
namespace Go.Proofs.YtkjelfmgnkkijaaGreatDoor
open Go.RowKit Go.Shelf Lum
open Go.Lib (decDigits itoa)
attribute [local go_sem] bs_get bs_extract_end bs_extract_from bs_extract bs_append

set_option maxRecDepth 100000 in
set_option maxHeartbeats 8000000 in
theorem law_sources (fr : Txt) (tz st ti : Int) (bl : Bool) (sv fv : Value) (su : List Sb) (fd : List Fdr) (ch : Int) (t : Int) (w : World) (hl0 : fr.length ≤ 9223372036854775807) (hs : SbsAt w sv su) (hf : FdsAt w fv fd) (ch0 : -9223372036854775808 ≤ ch) (ch1 : ch ≤ 9223372036854775807) (t0 : -9223372036854775808 ≤ t) (t1 : t ≤ 9223372036854775807) (env : Env w) :
    Calls Tryz.prog 5 #[.agg #[.string ⟨(fr).toArray⟩, .int .i64 tz, .int .i64 st, .int .i64 ti, .bool (bl), sv, fv], .int .i64 ch, .int .i64 t] w fun e w' => e = .returned (.bool (true)) ∧ Below w.heap.size w w' := by
  obtain ⟨ps, zs, rfl⟩ : ∃ ps zs, sv = .slice ps su.length zs := by obtain ⟨a, b, e, -⟩ := hs; exact ⟨a, b, e⟩
  obtain ⟨pf, zf, rfl⟩ : ∃ pf zf, fv = .slice pf fd.length zf := by obtain ⟨a, b, e, -⟩ := hf; exact ⟨a, b, e⟩
  have ENV := Lib.hid env; clear env
  have HS0 := Lib.hid hs
  have HF0 := Lib.hid hf
  have hal := (Below.refl w.heap.size w).alloc (Nat.le_refl _) (.cells #[.string ⟨(fr).toArray⟩, .int .i64 tz, .int .i64 st, .int .i64 ti, .bool (bl), (.slice ps su.length zs), (.slice pf fd.length zf)] 28)
  have HS := Lib.hid (SbsAt.kept hs hal)
  have HF := Lib.hid (FdsAt.kept hf hal)
  have HB := Lib.hid hal
  clear hal hs hf
  have HK := Lib.hid (Blk.new w 28 #[.string ⟨(fr).toArray⟩, .int .i64 tz, .int .i64 st, .int .i64 ti, .bool (bl), (.slice ps su.length zs), (.slice pf fd.length zf)])
  obtain ⟨k0, k1, k2, k3, k4, k5, k6, kf0, kf1, kf2, kf3, kf4, kf5, kf6⟩ := HK.out.c7
  have haw := fun W (e : Env W) => l30_awake W e
  have hri := fun W (h1 : SbsAt W (.slice ps su.length zs) su) (h2 : FdsAt W (.slice pf fd.length zf) fd) => l30_right tz st ti bl fr (.slice ps su.length zs) (.slice pf fd.length zf) su fd ch W h1 h2
  have HAW := Lib.hid haw; clear haw
  have HRI := Lib.hid hri; clear hri
  go_enter Tryz.func5, Tryz.ntmps5
  go_wp2_with fail
  refine ((HRI.out _ HS.out HF.out).mono ?_)
  rintro e w2 ⟨b1, rfl, hq, hb⟩
  replace HK := Lib.hid (HK.out.keep hb); clear k0 k1 k2 k3 k4 k5 k6 kf0 kf1 kf2 kf3 kf4 kf5 kf6; replace HS := Lib.hid (SbsAt.kept HS.out hb); replace HF := Lib.hid (FdsAt.kept HF.out hb); replace HB := Lib.hid (bch' HB.out hb); clear hb; obtain ⟨k0, k1, k2, k3, k4, k5, k6, kf0, kf1, kf2, kf3, kf4, kf5, kf6⟩ := HK.out.c7
  cases b1
  · go_wp2_with (first | (with_reducible refine ((HAW.out _ (ENV.out.below HB.out)).mono ?_); rintro e w' ⟨rfl, hb⟩; replace HK := Lib.hid (HK.out.keep hb); clear k0 k1 k2 k3 k4 k5 k6 kf0 kf1 kf2 kf3 kf4 kf5 kf6; replace HS := Lib.hid (SbsAt.kept HS.out hb); replace HF := Lib.hid (FdsAt.kept HF.out hb); replace HB := Lib.hid (bch' HB.out hb); clear hb; obtain ⟨k0, k1, k2, k3, k4, k5, k6, kf0, kf1, kf2, kf3, kf4, kf5, kf6⟩ := HK.out.c7))
    go_ret
    exact ⟨rfl, HB.out⟩
  · obtain ⟨hz, hx, hl⟩ := hq rfl
    clear hq
    obtain ⟨hm, hc0, hc1⟩ := onE_zero hz
    obtain ⟨m1, m2, m3⟩ := maE_zero hm
    have tok := tabOk m2
    have h16 := tok.few
    obtain ⟨gf, g0, g1⟩ := facQ_good bl t hz hx hl
    have hso := fun W (h1 : SbsAt W (.slice ps su.length zs) su) (h2 : FdsAt W (.slice pf fd.length zf) fd) (e : Env W) => own_msources_ok tz st ti bl fr (.slice ps su.length zs) (.slice pf fd.length zf) su fd ch W h1 h2 hx hl hz e
    have hfa := fun W (h1 : SbsAt W (.slice ps su.length zs) su) (h2 : FdsAt W (.slice pf fd.length zf) fd) (e : Env W) => own_mfactor_ok tz st ti bl fr (.slice ps su.length zs) (.slice pf fd.length zf) su fd ch t W h1 h2 hx hl hz e
    obtain ⟨qf, hqf⟩ : ∃ q, q = facQ (mainQ fr tz st ti bl t) su fd ch t su.length := ⟨_, rfl⟩
    have HQF := Lib.hid hqf
    rw [← hqf] at gf g0 g1 hfa
    clear hqf
    have hwi := fun W => l30_within qf W gf g0 g1
    have GF := Lib.hid gf; clear gf g0 g1
    obtain ⟨n0, n1⟩ := src_len (bl := bl) (su := su) (ch := ch)
    have ln0 : (((srcL bl su ch).length : Int) == 0) = false := by rw [beq_eq_false_iff_ne]; omega
    have ln1 : ¬ ((su.length : Int) + 2 < ((srcL bl su ch).length : Int)) := by omega
    have ln2 : ¬ (su.length + 2 < (srcL bl su ch).length) := by omega
    have ln3 : (srcL bl su ch).length ≠ 0 := by omega
    have HN18 : Hid ((srcL bl su ch).length ≤ 18) := Lib.hid (by omega)
    have h16i : (su.length : Int) ≤ 16 := by omega
    have TOK := Lib.hid tok; have HM := Lib.hid hm; have HZ := Lib.hid hz; have HX := Lib.hid hx; have HLL := Lib.hid hl
    clear tok hm hz hx hl m1 m2 m3 hc0 hc1 n0 n1
    skip
    have HSO := Lib.hid hso; clear hso
    have HFA := Lib.hid hfa; clear hfa
    have HWI := Lib.hid hwi; clear hwi
    go_wp2_with fail
    refine ((HSO.out _ HS.out HF.out (ENV.out.below HB.out)).mono ?_)
    rintro e w' ⟨pv, cv, rfl, hp, hb⟩
    have HP := Lib.hid hp; clear hp
    replace HK := Lib.hid (HK.out.keep hb); clear k0 k1 k2 k3 k4 k5 k6 kf0 kf1 kf2 kf3 kf4 kf5 kf6; replace HS := Lib.hid (SbsAt.kept HS.out hb); replace HF := Lib.hid (FdsAt.kept HF.out hb); replace HB := Lib.hid (bch' HB.out hb); clear hb; obtain ⟨k0, k1, k2, k3, k4, k5, k6, kf0, kf1, kf2, kf3, kf4, kf5, kf6⟩ := HK.out.c7
    go_upto_region 7 with (first | (with_reducible refine ((HFA.out _ HS.out HF.out (ENV.out.below HB.out)).mono ?_); rintro e w' ⟨rfl, hb⟩; replace HK := Lib.hid (HK.out.keep hb); clear k0 k1 k2 k3 k4 k5 k6 kf0 kf1 kf2 kf3 kf4 kf5 kf6; replace HS := Lib.hid (SbsAt.kept HS.out hb); replace HF := Lib.hid (FdsAt.kept HF.out hb); replace HP := Lib.hid (PtsAt.below HP.out hb); replace HB := Lib.hid (bch' HB.out hb); clear hb; obtain ⟨k0, k1, k2, k3, k4, k5, k6, kf0, kf1, kf2, kf3, kf4, kf5, kf6⟩ := HK.out.c7) | (with_reducible refine ((HWI.out _).mono ?_); rintro e w' ⟨rfl, hb⟩; replace HK := Lib.hid (HK.out.keep hb); clear k0 k1 k2 k3 k4 k5 k6 kf0 kf1 kf2 kf3 kf4 kf5 kf6; replace HS := Lib.hid (SbsAt.kept HS.out hb); replace HF := Lib.hid (FdsAt.kept HF.out hb); replace HP := Lib.hid (PtsAt.below HP.out hb); replace HB := Lib.hid (bch' HB.out hb); clear hb; obtain ⟨k0, k1, k2, k3, k4, k5, k6, kf0, kf1, kf2, kf3, kf4, kf5, kf6⟩ := HK.out.c7))
    obtain ⟨w5, rfl⟩ : ∃ w5 : World, w5 = w' := ⟨_, rfl⟩
    clear ln0 ln1 ln2 ln3
    have HK5 := HK; have HS5 := HS; have HF5 := HF; have HB0 := HB
    have hal := (Below.refl w5.heap.size w5).alloc (Nat.le_refl _) (.cells #[.string ⟨(fr).toArray⟩, .int .i64 tz, .int .i64 st, .int .i64 ti, .bool (bl), (.slice ps su.length zs), (.slice pf fd.length zf)] 28)
    have HB5 := Lib.hid hal; clear hal
    have HL := Lib.hid (Blk.new w5 28 #[.string ⟨(fr).toArray⟩, .int .i64 tz, .int .i64 st, .int .i64 ti, .bool (bl), (.slice ps su.length zs), (.slice pf fd.length zf)])
    have HX5 : Hid (SbsX w5.heap.size w (w5.alloc (.cells #[.string ⟨(fr).toArray⟩, .int .i64 tz, .int .i64 st, .int .i64 ti, .bool (bl), (.slice ps su.length zs), (.slice pf fd.length zf)] 28)) (.slice ps su.length zs) su) := Lib.hid (SbsX.start HS0.out (bch' HB.out HB5.out) HB.out.size)
    have HLN := Lib.hid (show (0 : Int) ≤ 0 from Int.le_refl 0)
    clear HK HS HF HB
    clear k0 k1 k2 k3 k4 k5 k6 kf0 kf1 kf2 kf3 kf4 kf5 kf6; obtain ⟨k0, k1, k2, k3, k4, k5, k6, kf0, kf1, kf2, kf3, kf4, kf5, kf6⟩ := HK5.out.c7
    go_upto_region 8 with fail
    generalize w5.alloc (.cells #[.string ⟨(fr).toArray⟩, .int .i64 tz, .int .i64 st, .int .i64 ti, .bool (bl), (.slice ps su.length zs), (.slice pf fd.length zf)] 28) = w6 at *
    clear k0 k1 k2 k3 k4 k5 k6 kf0 kf1 kf2 kf3 kf4 kf5 kf6
    go_wp2_with fail
    go_loopw [63] (fun i wr => ∃ (k r : Nat) (af : Txt) (at_ az ai : Int) (ab : Bool) (asu : List Sb) (pa : Option Addr) (za : Nat), i = .int .i64 (k : Int) ∧ Hid (k + r = (srcL bl su ch).length) ∧ Hid (Below w5.heap.size w5 wr) ∧ Hid (Blk wr w5.heap.size 28 #[.string ⟨(af).toArray⟩, .int .i64 at_, .int .i64 az, .int .i64 ai, .bool (ab), .slice pa asu.length za, (.slice pf fd.length zf)]) ∧ Hid (SbsX w5.heap.size w wr (.slice pa asu.length za) asu) ∧ Hid (af = aFr ((srcL bl su ch).take k) fr ∧ at_ = aTo ((srcL bl su ch).take k) tz ∧ az = aZe ((srcL bl su ch).take k) st ∧ ai = aZe ((srcL bl su ch).take k) ti ∧ ab = aBl ((srcL bl su ch).take k) bl ∧ asu = aSu ((srcL bl su ch).take k) su)) (fun i _ => (srcL bl su ch).length - (intOf i).toNat)
    case atStart => exact ⟨0, (srcL bl su ch).length, fr, tz, st, ti, bl, su, ps, zs, rfl, Lib.hid (by omega), HB5, HL, HX5, Lib.hid ⟨rfl, rfl, rfl, rfl, (aBl_nil bl).symm, (aSu_nil su).symm⟩⟩
    case round =>
      obtain ⟨k, r, af, at_, az, ai, ab, asu, pa, za, rfl, hkr, HB52, HL2, HX52, HE⟩ := hrel
      clear HB5 HL HX5
      have HB5 := HB52; have HL := HL2; have HX5 := HX52; clear HB52 HL2 HX52
      have HB : Hid (Below w.heap.size w wr) := Lib.hid (bch' HB0.out HB5.out)
      have HS := Lib.hid (SbsAt.kept HS5.out HB5.out); have HF := Lib.hid (FdsAt.kept HF5.out HB5.out)
      have HK := Lib.hid (HK5.out.keep HB5.out)
      obtain ⟨k0, k1, k2, k3, k4, k5, k6, kf0, kf1, kf2, kf3, kf4, kf5, kf6⟩ := HK.out.c7
      obtain ⟨l0, l1, l2, l3, l4, l5, l6, lf0, lf1, lf2, lf3, lf4, lf5, lf6⟩ := HL.out.c7
      cases r with
      | zero =>
        have hlt : ¬ (k : Int) < ((srcL bl su ch).length : Int) := by have := hkr.out; omega
        have hfz := fun W (h1 : SbsAt W (.slice pa asu.length za) asu) (h2 : FdsAt W (.slice pf fd.length zf) fd) (e : Env W) => own_mfactor_ok at_ az ai ab af (.slice pa asu.length za) (.slice pf fd.length zf) asu fd ch t W h1 h2 (by obtain ⟨rfl, -⟩ := HE.out; exact aFr_len _ HX.out) HLL.out (by obtain ⟨rfl, rfl, rfl, rfl, -, rfl⟩ := HE.out; exact onE_a _ HZ.out) e
        have hone : facQ (mainQ af at_ az ai ab t) asu fd ch t asu.length = 1 := by
          obtain ⟨rfl, rfl, rfl, rfl, rfl, rfl⟩ := HE.out
          rw [List.take_of_length_le (by have := hkr.out; omega)]
          exact src_end fr tz st ti t
        rw [hone, show showR 1 = [49] by decide +kernel] at hfz
        clear hone
        have HFZ := Lib.hid hfz; clear hfz
        have HSA := Lib.hid (HX5.out.at_ HB.out)
        go_wp2_with (first | (with_reducible refine ((HFZ.out _ HSA.out HF.out (ENV.out.below HB.out)).mono ?_); rintro e w' ⟨rfl, hb⟩; replace HK := Lib.hid (HK.out.keep hb); clear k0 k1 k2 k3 k4 k5 k6 kf0 kf1 kf2 kf3 kf4 kf5 kf6; replace HL := Lib.hid (HL.out.keep hb); clear l0 l1 l2 l3 l4 l5 l6 lf0 lf1 lf2 lf3 lf4 lf5 lf6; replace HS := Lib.hid (SbsAt.kept HS.out hb); replace HF := Lib.hid (FdsAt.kept HF.out hb); replace HB := Lib.hid (bch' HB.out hb); clear hb; obtain ⟨k0, k1, k2, k3, k4, k5, k6, kf0, kf1, kf2, kf3, kf4, kf5, kf6⟩ := HK.out.c7; obtain ⟨l0, l1, l2, l3, l4, l5, l6, lf0, lf1, lf2, lf3, lf4, lf5, lf6⟩ := HL.out.c7) | (with_reducible refine ((HAW.out _ (ENV.out.below HB.out)).mono ?_); rintro e w' ⟨rfl, hb⟩; replace HK := Lib.hid (HK.out.keep hb); clear k0 k1 k2 k3 k4 k5 k6 kf0 kf1 kf2 kf3 kf4 kf5 kf6; replace HL := Lib.hid (HL.out.keep hb); clear l0 l1 l2 l3 l4 l5 l6 lf0 lf1 lf2 lf3 lf4 lf5 lf6; replace HS := Lib.hid (SbsAt.kept HS.out hb); replace HF := Lib.hid (FdsAt.kept HF.out hb); replace HB := Lib.hid (bch' HB.out hb); clear hb; obtain ⟨k0, k1, k2, k3, k4, k5, k6, kf0, kf1, kf2, kf3, kf4, kf5, kf6⟩ := HK.out.c7; obtain ⟨l0, l1, l2, l3, l4, l5, l6, lf0, lf1, lf2, lf3, lf4, lf5, lf6⟩ := HL.out.c7))
        go_ret
        exact ⟨rfl, HB.out⟩
      | succ r =>
        have hkn : k < (srcL bl su ch).length := by have := hkr.out; omega
        have hlt : (k : Int) < ((srcL bl su ch).length : Int) := by omega
        have hun : IntKind.i64.wrap ((k : Int) + 1) = (k : Int) + 1 := IntWalk.i64_in _ (by have := HN18.out; omega)
        obtain ⟨b, o, hpv, hb, hC⟩ : ∃ b o, pv = some ⟨b, o, none⟩ ∧ b < w5.heap.size ∧ PtC w5 b o (srcL bl su ch) := by
          obtain ⟨p, c, e, h2⟩ := HP.out
          injection e with e1 e2 e3
          subst e1
          exact h2 (fun h => by rw [h] at hkn; exact absurd hkn (Nat.not_lt_zero _))
        subst hpv
        obtain ⟨c1, c2⟩ := hC.below HB5.out hb k hkn
        clear hC
        have hbr : b < wr.heap.size := by have := HB5.out.size; omega
        have hxm := pt_mem hkn
        have hw1 : woE (pX (srcL bl su ch) k) (pY (srcL bl su ch) k) su = 0 := by have h := src_nexts (xs := []) hxm (fun h => by cases h); rwa [aSu_nil] at h
        have hw2 : woE (pX (srcL bl su ch) k) (pY (srcL bl su ch) k) asu = 0 := by have h := src_next (bl := bl) (ch := ch) TOK.out hkn; rw [pt_at hkn] at h; obtain ⟨-, -, -, -, -, rfl⟩ := HE.out; exact h
        have hwn := fun W (h1 : SbsAt W (.slice ps su.length zs) su) (h2 : FdsAt W (.slice pf fd.length zf) fd) (e : Env W) => own_mwo_ok tz st ti bl fr (.slice ps su.length zs) (.slice pf fd.length zf) su fd (pX (srcL bl su ch) k) (pY (srcL bl su ch) k) W h1 h2 HX.out HLL.out HM.out hw1 e
        have hwa := fun W (hX : SbsX w5.heap.size w W (.slice pa asu.length za) asu) (hb : Below w.heap.size w W) (hB : w5.heap.size < W.heap.size) (h2 : FdsAt W (.slice pf fd.length zf) fd) (e : Env W) => own_mwo_okX at_ az ai ab af (.slice pa asu.length za) (.slice pf fd.length zf) asu fd (pX (srcL bl su ch) k) (pY (srcL bl su ch) k) w5.heap.size W w hX hb hB h2 (by obtain ⟨rfl, -⟩ := HE.out; exact aFr_len _ HX.out) HLL.out (by obtain ⟨rfl, rfl, rfl, rfl, -, rfl⟩ := HE.out; exact aMa _ HM.out) hw2 e
        have hgood := facQ_good (aBl [(pX (srcL bl su ch) k, pY (srcL bl su ch) k)] bl) t (onE_a [(pX (srcL bl su ch) k, pY (srcL bl su ch) k)] HZ.out) (aFr_len [(pX (srcL bl su ch) k, pY (srcL bl su ch) k)] HX.out) HLL.out
        have hless := src_less (bl := bl) (ch := ch) (t := t) HM.out (pX (srcL bl su ch) k, pY (srcL bl su ch) k)
        have hfn := fun W p c (h1 : SbsAt W (.slice p (aSu [(pX (srcL bl su ch) k, pY (srcL bl su ch) k)] su).length c) (aSu [(pX (srcL bl su ch) k, pY (srcL bl su ch) k)] su)) (h2 : FdsAt W (.slice pf fd.length zf) fd) (e : Env W) => own_mfactor_ok (aTo [(pX (srcL bl su ch) k, pY (srcL bl su ch) k)] tz) (aZe [(pX (srcL bl su ch) k, pY (srcL bl su ch) k)] st) (aZe [(pX (srcL bl su ch) k, pY (srcL bl su ch) k)] ti) (aBl [(pX (srcL bl su ch) k, pY (srcL bl su ch) k)] bl) (aFr [(pX (srcL bl su ch) k, pY (srcL bl su ch) k)] fr) (.slice p (aSu [(pX (srcL bl su ch) k, pY (srcL bl su ch) k)] su).length c) (.slice pf fd.length zf) (aSu [(pX (srcL bl su ch) k, pY (srcL bl su ch) k)] su) fd ch t W h1 h2 (aFr_len [(pX (srcL bl su ch) k, pY (srcL bl su ch) k)] HX.out) HLL.out (onE_a [(pX (srcL bl su ch) k, pY (srcL bl su ch) k)] HZ.out) e
        have HEQ2 : Hid (aFr [(pX (srcL bl su ch) k, pY (srcL bl su ch) k)] af = aFr ((srcL bl su ch).take (k + 1)) fr ∧ aTo [(pX (srcL bl su ch) k, pY (srcL bl su ch) k)] at_ = aTo ((srcL bl su ch).take (k + 1)) tz ∧ aZe [(pX (srcL bl su ch) k, pY (srcL bl su ch) k)] az = aZe ((srcL bl su ch).take (k + 1)) st ∧ aZe [(pX (srcL bl su ch) k, pY (srcL bl su ch) k)] ai = aZe ((srcL bl su ch).take (k + 1)) ti ∧ aBl [(pX (srcL bl su ch) k, pY (srcL bl su ch) k)] ab = aBl ((srcL bl su ch).take (k + 1)) bl ∧ aSu [(pX (srcL bl su ch) k, pY (srcL bl su ch) k)] asu = aSu ((srcL bl su ch).take (k + 1)) su) := by
          obtain ⟨rfl, rfl, rfl, rfl, rfl, rfl⟩ := HE.out
          rw [aFr_snoc, aTo_snoc, aZe_snoc, aZe_snoc, aBl_snoc, aSu_snoc, pt_take hkn]
          exact Lib.hid ⟨rfl, rfl, rfl, rfl, rfl, rfl⟩
        rw [← HQF.out] at hless
        obtain ⟨nf, hnf⟩ : ∃ z, z = aFr [(pX (srcL bl su ch) k, pY (srcL bl su ch) k)] fr := ⟨_, rfl⟩
        obtain ⟨nt, hnt⟩ : ∃ z, z = aTo [(pX (srcL bl su ch) k, pY (srcL bl su ch) k)] tz := ⟨_, rfl⟩
        obtain ⟨nz, hnz⟩ : ∃ z, z = aZe [(pX (srcL bl su ch) k, pY (srcL bl su ch) k)] st := ⟨_, rfl⟩
        obtain ⟨ni, hni⟩ : ∃ z, z = aZe [(pX (srcL bl su ch) k, pY (srcL bl su ch) k)] ti := ⟨_, rfl⟩
        obtain ⟨nb, hnb⟩ : ∃ z, z = aBl [(pX (srcL bl su ch) k, pY (srcL bl su ch) k)] bl := ⟨_, rfl⟩
        obtain ⟨nsu, hnsu⟩ : ∃ z, z = aSu [(pX (srcL bl su ch) k, pY (srcL bl su ch) k)] su := ⟨_, rfl⟩
        rw [← hnf, ← hnt, ← hnz, ← hni, ← hnb, ← hnsu] at hgood hless
        simp only [← hnf, ← hnt, ← hnz, ← hni, ← hnb, ← hnsu] at hwn hfn
        clear hnf hnt hnz hni hnb hnsu
        obtain ⟨zf2, hzf2⟩ : ∃ z, z = aFr [(pX (srcL bl su ch) k, pY (srcL bl su ch) k)] af := ⟨_, rfl⟩
        obtain ⟨zt2, hzt2⟩ : ∃ z, z = aTo [(pX (srcL bl su ch) k, pY (srcL bl su ch) k)] at_ := ⟨_, rfl⟩
        obtain ⟨zz2, hzz2⟩ : ∃ z, z = aZe [(pX (srcL bl su ch) k, pY (srcL bl su ch) k)] az := ⟨_, rfl⟩
        obtain ⟨zi2, hzi2⟩ : ∃ z, z = aZe [(pX (srcL bl su ch) k, pY (srcL bl su ch) k)] ai := ⟨_, rfl⟩
        obtain ⟨zb2, hzb2⟩ : ∃ z, z = aBl [(pX (srcL bl su ch) k, pY (srcL bl su ch) k)] ab := ⟨_, rfl⟩
        obtain ⟨zsu, hzsu⟩ : ∃ z, z = aSu [(pX (srcL bl su ch) k, pY (srcL bl su ch) k)] asu := ⟨_, rfl⟩
        rw [← hzf2, ← hzt2, ← hzz2, ← hzi2, ← hzb2, ← hzsu] at HEQ2
        simp only [← hzf2, ← hzt2, ← hzz2, ← hzi2, ← hzb2, ← hzsu] at hwa
        clear hzf2 hzt2 hzz2 hzi2 hzb2 hzsu
        obtain ⟨qh, hqh⟩ : ∃ q, q = facQ (mainQ nf nt nz ni nb t) nsu fd ch t nsu.length := ⟨_, rfl⟩
        rw [← hqh] at hgood hless
        simp only [← hqh] at hfn
        clear hqh
        obtain ⟨jf, j0, j1⟩ := hgood
        have hwj := fun W => l30_within qh W jf j0 j1
        have hor := fun W => r2_order qh qf W (jf.mono (by omega)) (GF.out.mono (by omega))
        have hs0 : ¬ sgn qh qf < (0 : Int) := fun h => absurd ((sgn_lt _ _).1 h) (Rat.not_lt.2 hless)
        generalize sgn qh qf = zs0 at *
        clear jf j0 j1 hless hxm hw1 hw2
        have HWN := Lib.hid hwn; clear hwn
        have HWA := Lib.hid hwa; clear hwa
        have HFN := Lib.hid hfn; clear hfn
        have HWJ := Lib.hid hwj; clear hwj
        have HOR := Lib.hid hor; clear hor
        generalize pX (srcL bl su ch) k = x1 at *
        generalize pY (srcL bl su ch) k = x2 at *
        have hal := (Below.refl wr.heap.size wr).alloc (Nat.le_refl _) (.cells #[.int .i64 x1, .int .i64 x2] 43)
        replace HK := Lib.hid (HK.out.keep hal); replace HL := Lib.hid (HL.out.keep hal)
        replace HS := Lib.hid (SbsAt.kept HS.out hal); replace HF := Lib.hid (FdsAt.kept HF.out hal)
        replace HB5 := Lib.hid (bch' HB5.out hal); replace HX5 := Lib.hid (SbsX.keep HX5.out hal); replace HB := Lib.hid (bch' HB.out hal)
        clear hal
        have HE_ := Lib.hid (Blk.new wr 43 #[.int .i64 x1, .int .i64 x2])
        go_upto_region 11 with fail
        clear k0 k1 k2 k3 k4 k5 k6 kf0 kf1 kf2 kf3 kf4 kf5 kf6
        clear l0 l1 l2 l3 l4 l5 l6 lf0 lf1 lf2 lf3 lf4 lf5 lf6
        clear c1 c2
        generalize wr.alloc (.cells #[.int .i64 x1, .int .i64 x2] 43) = wy at *
        obtain ⟨k0, k1, k2, k3, k4, k5, k6, kf0, kf1, kf2, kf3, kf4, kf5, kf6⟩ := HK.out.c7
        obtain ⟨l0, l1, l2, l3, l4, l5, l6, lf0, lf1, lf2, lf3, lf4, lf5, lf6⟩ := HL.out.c7
        obtain ⟨e0, e1, ef0, ef1⟩ := HE_.out.c2
        go_wp2_with fail
        refine ((HWN.out _ HS.out HF.out (ENV.out.below HB.out)).mono ?_)
        rintro e w' ⟨p2, c2, rfl, hs2, hb⟩
        have HS2 := Lib.hid hs2; clear hs2
        replace HK := Lib.hid (HK.out.keep hb); clear k0 k1 k2 k3 k4 k5 k6 kf0 kf1 kf2 kf3 kf4 kf5 kf6; replace HL := Lib.hid (HL.out.keep hb); clear l0 l1 l2 l3 l4 l5 l6 lf0 lf1 lf2 lf3 lf4 lf5 lf6; replace HE_ := Lib.hid (HE_.out.keep hb); clear e0 e1 ef0 ef1; replace HS := Lib.hid (SbsAt.kept HS.out hb); replace HF := Lib.hid (FdsAt.kept HF.out hb); replace HB5 := Lib.hid (bch' HB5.out hb); replace HX5 := Lib.hid (SbsX.keep HX5.out hb); replace HB := Lib.hid (bch' HB.out hb); clear hb; obtain ⟨k0, k1, k2, k3, k4, k5, k6, kf0, kf1, kf2, kf3, kf4, kf5, kf6⟩ := HK.out.c7; obtain ⟨l0, l1, l2, l3, l4, l5, l6, lf0, lf1, lf2, lf3, lf4, lf5, lf6⟩ := HL.out.c7; obtain ⟨e0, e1, ef0, ef1⟩ := HE_.out.c2
        have hal := (Below.refl w'.heap.size w').alloc (Nat.le_refl _) (.cells #[.string ⟨(nf).toArray⟩, .int .i64 nt, .int .i64 nz, .int .i64 ni, .bool (nb), .slice p2 nsu.length c2, (.slice pf fd.length zf)] 28)
        replace HK := Lib.hid (HK.out.keep hal); replace HL := Lib.hid (HL.out.keep hal); replace HE_ := Lib.hid (HE_.out.keep hal)
        replace HS := Lib.hid (SbsAt.kept HS.out hal); replace HF := Lib.hid (FdsAt.kept HF.out hal); replace HS2 := Lib.hid (SbsAt.kept HS2.out hal)
        replace HB5 := Lib.hid (bch' HB5.out hal); replace HX5 := Lib.hid (SbsX.keep HX5.out hal); replace HB := Lib.hid (bch' HB.out hal)
        clear hal
        have HN := Lib.hid (Blk.new w' 28 #[.string ⟨(nf).toArray⟩, .int .i64 nt, .int .i64 nz, .int .i64 ni, .bool (nb), .slice p2 nsu.length c2, (.slice pf fd.length zf)])
        go_upto_region 12 with fail
        clear k0 k1 k2 k3 k4 k5 k6 kf0 kf1 kf2 kf3 kf4 kf5 kf6
        clear l0 l1 l2 l3 l4 l5 l6 lf0 lf1 lf2 lf3 lf4 lf5 lf6
        clear e0 e1 ef0 ef1
        generalize w'.alloc (.cells #[.string ⟨(nf).toArray⟩, .int .i64 nt, .int .i64 nz, .int .i64 ni, .bool (nb), .slice p2 nsu.length c2, (.slice pf fd.length zf)] 28) = wz at *
        generalize w'.heap.size = GN at *
        obtain ⟨k0, k1, k2, k3, k4, k5, k6, kf0, kf1, kf2, kf3, kf4, kf5, kf6⟩ := HK.out.c7
        obtain ⟨l0, l1, l2, l3, l4, l5, l6, lf0, lf1, lf2, lf3, lf4, lf5, lf6⟩ := HL.out.c7
        obtain ⟨e0, e1, ef0, ef1⟩ := HE_.out.c2
        obtain ⟨n0, n1, n2, n3, n4, n5, n6, nf0, nf1, nf2, nf3, nf4, nf5, nf6⟩ := HN.out.c7
        go_upto_region 15 with (first | (with_reducible refine ((HFN.out _ _ _ HS2.out HF.out (ENV.out.below HB.out)).mono ?_); rintro e w' ⟨rfl, hb⟩; replace HK := Lib.hid (HK.out.keep hb); clear k0 k1 k2 k3 k4 k5 k6 kf0 kf1 kf2 kf3 kf4 kf5 kf6; replace HL := Lib.hid (HL.out.keep hb); clear l0 l1 l2 l3 l4 l5 l6 lf0 lf1 lf2 lf3 lf4 lf5 lf6; replace HE_ := Lib.hid (HE_.out.keep hb); clear e0 e1 ef0 ef1; replace HN := Lib.hid (HN.out.keep hb); clear n0 n1 n2 n3 n4 n5 n6 nf0 nf1 nf2 nf3 nf4 nf5 nf6; replace HS := Lib.hid (SbsAt.kept HS.out hb); replace HF := Lib.hid (FdsAt.kept HF.out hb); replace HB5 := Lib.hid (bch' HB5.out hb); replace HX5 := Lib.hid (SbsX.keep HX5.out hb); replace HS2 := Lib.hid (SbsAt.kept HS2.out hb); replace HB := Lib.hid (bch' HB.out hb); clear hb; obtain ⟨k0, k1, k2, k3, k4, k5, k6, kf0, kf1, kf2, kf3, kf4, kf5, kf6⟩ := HK.out.c7; obtain ⟨l0, l1, l2, l3, l4, l5, l6, lf0, lf1, lf2, lf3, lf4, lf5, lf6⟩ := HL.out.c7; obtain ⟨e0, e1, ef0, ef1⟩ := HE_.out.c2; obtain ⟨n0, n1, n2, n3, n4, n5, n6, nf0, nf1, nf2, nf3, nf4, nf5, nf6⟩ := HN.out.c7) | (with_reducible refine ((HWJ.out _).mono ?_); rintro e w' ⟨rfl, hb⟩; replace HK := Lib.hid (HK.out.keep hb); clear k0 k1 k2 k3 k4 k5 k6 kf0 kf1 kf2 kf3 kf4 kf5 kf6; replace HL := Lib.hid (HL.out.keep hb); clear l0 l1 l2 l3 l4 l5 l6 lf0 lf1 lf2 lf3 lf4 lf5 lf6; replace HE_ := Lib.hid (HE_.out.keep hb); clear e0 e1 ef0 ef1; replace HN := Lib.hid (HN.out.keep hb); clear n0 n1 n2 n3 n4 n5 n6 nf0 nf1 nf2 nf3 nf4 nf5 nf6; replace HS := Lib.hid (SbsAt.kept HS.out hb); replace HF := Lib.hid (FdsAt.kept HF.out hb); replace HB5 := Lib.hid (bch' HB5.out hb); replace HX5 := Lib.hid (SbsX.keep HX5.out hb); replace HS2 := Lib.hid (SbsAt.kept HS2.out hb); replace HB := Lib.hid (bch' HB.out hb); clear hb; obtain ⟨k0, k1, k2, k3, k4, k5, k6, kf0, kf1, kf2, kf3, kf4, kf5, kf6⟩ := HK.out.c7; obtain ⟨l0, l1, l2, l3, l4, l5, l6, lf0, lf1, lf2, lf3, lf4, lf5, lf6⟩ := HL.out.c7; obtain ⟨e0, e1, ef0, ef1⟩ := HE_.out.c2; obtain ⟨n0, n1, n2, n3, n4, n5, n6, nf0, nf1, nf2, nf3, nf4, nf5, nf6⟩ := HN.out.c7) | (with_reducible refine ((HOR.out _).mono ?_); rintro e w' ⟨rfl, hb⟩; replace HK := Lib.hid (HK.out.keep hb); clear k0 k1 k2 k3 k4 k5 k6 kf0 kf1 kf2 kf3 kf4 kf5 kf6; replace HL := Lib.hid (HL.out.keep hb); clear l0 l1 l2 l3 l4 l5 l6 lf0 lf1 lf2 lf3 lf4 lf5 lf6; replace HE_ := Lib.hid (HE_.out.keep hb); clear e0 e1 ef0 ef1; replace HN := Lib.hid (HN.out.keep hb); clear n0 n1 n2 n3 n4 n5 n6 nf0 nf1 nf2 nf3 nf4 nf5 nf6; replace HS := Lib.hid (SbsAt.kept HS.out hb); replace HF := Lib.hid (FdsAt.kept HF.out hb); replace HB5 := Lib.hid (bch' HB5.out hb); replace HX5 := Lib.hid (SbsX.keep HX5.out hb); replace HS2 := Lib.hid (SbsAt.kept HS2.out hb); replace HB := Lib.hid (bch' HB.out hb); clear hb; obtain ⟨k0, k1, k2, k3, k4, k5, k6, kf0, kf1, kf2, kf3, kf4, kf5, kf6⟩ := HK.out.c7; obtain ⟨l0, l1, l2, l3, l4, l5, l6, lf0, lf1, lf2, lf3, lf4, lf5, lf6⟩ := HL.out.c7; obtain ⟨e0, e1, ef0, ef1⟩ := HE_.out.c2; obtain ⟨n0, n1, n2, n3, n4, n5, n6, nf0, nf1, nf2, nf3, nf4, nf5, nf6⟩ := HN.out.c7))
        go_wp2_with fail
        refine ((HWA.out _ HX5.out HB.out (by have := HL.out.lt; omega) HF.out (ENV.out.below HB.out)).mono ?_)
        rintro e wk ⟨p3, c3, rfl, hx3, hb⟩
        have HX3 := Lib.hid hx3; clear hx3
        replace HK := Lib.hid (HK.out.keep hb); clear k0 k1 k2 k3 k4 k5 k6 kf0 kf1 kf2 kf3 kf4 kf5 kf6; replace HL := Lib.hid (HL.out.keep hb); clear l0 l1 l2 l3 l4 l5 l6 lf0 lf1 lf2 lf3 lf4 lf5 lf6; replace HE_ := Lib.hid (HE_.out.keep hb); clear e0 e1 ef0 ef1; replace HN := Lib.hid (HN.out.keep hb); clear n0 n1 n2 n3 n4 n5 n6 nf0 nf1 nf2 nf3 nf4 nf5 nf6; replace HS := Lib.hid (SbsAt.kept HS.out hb); replace HF := Lib.hid (FdsAt.kept HF.out hb); replace HB5 := Lib.hid (bch' HB5.out hb); replace HX5 := Lib.hid (SbsX.keep HX5.out hb); replace HS2 := Lib.hid (SbsAt.kept HS2.out hb); replace HB := Lib.hid (bch' HB.out hb); clear hb; obtain ⟨k0, k1, k2, k3, k4, k5, k6, kf0, kf1, kf2, kf3, kf4, kf5, kf6⟩ := HK.out.c7; obtain ⟨l0, l1, l2, l3, l4, l5, l6, lf0, lf1, lf2, lf3, lf4, lf5, lf6⟩ := HL.out.c7; obtain ⟨e0, e1, ef0, ef1⟩ := HE_.out.c2; obtain ⟨n0, n1, n2, n3, n4, n5, n6, nf0, nf1, nf2, nf3, nf4, nf5, nf6⟩ := HN.out.c7
        go_upto_region 16 with fail
        have HL4 := Lib.hid (HL.out.all7 (.string ⟨(zf2).toArray⟩) (.int .i64 zt2) (.int .i64 zz2) (.int .i64 zi2) (.bool (zb2)) (.slice p3 zsu.length c3) ((.slice pf fd.length zf)))
        have HB54 := Lib.hid (bset7 HB5.out (Nat.le_refl _) (.string ⟨(zf2).toArray⟩) (.int .i64 zt2) (.int .i64 zz2) (.int .i64 zi2) (.bool (zb2)) (.slice p3 zsu.length c3) ((.slice pf fd.length zf)))
        have HX4 := Lib.hid (HX3.out.far (W' := (((((((wk.setCell ⟨w5.heap.size, 0, none⟩ (.string ⟨(zf2).toArray⟩)).setCell ⟨w5.heap.size, 1, none⟩ (.int .i64 zt2)).setCell ⟨w5.heap.size, 2, none⟩ (.int .i64 zz2)).setCell ⟨w5.heap.size, 3, none⟩ (.int .i64 zi2)).setCell ⟨w5.heap.size, 4, none⟩ (.bool (zb2))).setCell ⟨w5.heap.size, 5, none⟩ (.slice p3 zsu.length c3)).setCell ⟨w5.heap.size, 6, none⟩ ((.slice pf fd.length zf)))) (by rw [size_set7]; exact Nat.le_refl _) (fun g hg _ => near_set7 wk hg (.string ⟨(zf2).toArray⟩) (.int .i64 zt2) (.int .i64 zz2) (.int .i64 zi2) (.bool (zb2)) (.slice p3 zsu.length c3) ((.slice pf fd.length zf))))
        clear k0 k1 k2 k3 k4 k5 k6 kf0 kf1 kf2 kf3 kf4 kf5 kf6; clear l0 l1 l2 l3 l4 l5 l6 lf0 lf1 lf2 lf3 lf4 lf5 lf6; clear e0 e1 ef0 ef1; clear n0 n1 n2 n3 n4 n5 n6 nf0 nf1 nf2 nf3 nf4 nf5 nf6
        clear HK HL HE_ HN HS HF HB HB5 HX5 HX3 HS2
        generalize (((((((wk.setCell ⟨w5.heap.size, 0, none⟩ (.string ⟨(zf2).toArray⟩)).setCell ⟨w5.heap.size, 1, none⟩ (.int .i64 zt2)).setCell ⟨w5.heap.size, 2, none⟩ (.int .i64 zz2)).setCell ⟨w5.heap.size, 3, none⟩ (.int .i64 zi2)).setCell ⟨w5.heap.size, 4, none⟩ (.bool (zb2))).setCell ⟨w5.heap.size, 5, none⟩ (.slice p3 zsu.length c3)).setCell ⟨w5.heap.size, 6, none⟩ ((.slice pf fd.length zf))) = wq at *
        go_wp2_with fail
        go_roundw
        case rel => exact ⟨k + 1, r, zf2, zt2, zz2, zi2, zb2, zsu, p3, c3, by first | rfl | simp, Lib.hid (by have := hkr.out; omega), HB54, HL4, HX4, HEQ2⟩
        case measure => first | (simp [intOf]; done) | (simp [intOf]; omega)
end Go.Proofs.YtkjelfmgnkkijaaGreatDoor
