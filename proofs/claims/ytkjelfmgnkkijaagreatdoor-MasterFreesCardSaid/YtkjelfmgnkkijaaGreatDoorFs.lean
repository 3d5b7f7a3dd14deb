/-
  Without of the program and of the reference at once; the law MasterFrees.
-/
import Derived.Test.YtkjelfmgnkkijaaGreatDoorFe
import Derived.Test.YtkjelfmgnkkijaaGreatDoorHw
import Derived.Deep.RegionHeld3
set_option linter.unusedVariables false
set_option linter.unusedSimpArgs false
namespace Lum
open Go Go.RowKit Go.Shelf
open Go.Lib (decDigits itoa)
theorem use3 {P Q : Prop} (h : P) (f : P → Q) : Q := f h
/-- The slice of a table that stands as it was, or one that the call has made. -/
theorem SbsK.sub {w W w' : World} {v : Value} {su : List Sb} (h : SbsK w W w' v su) {W2 : World} (hb : Below w.heap.size w W2) (hk : ∀ g, W.heap.size ≤ g → g < w'.heap.size → W2.heap[g]? = w'.heap[g]?) : SbsAt W2 v su := h W2 hb hk
end Lum
namespace Go.Proofs.YtkjelfmgnkkijaaGreatDoor
open Go.RowKit Go.Shelf Lum
open Go.Lib (decDigits itoa)
attribute [local go_sem] bs_get bs_extract_end bs_extract_from bs_extract bs_append

theorem g30_wo (tz st ti : Int) (bl : Bool) (fr : Txt) (ps pf : Option Addr) (zs zf : Nat) (su : List Sb) (fd : List Fdr) (sk sn : Int) (w : World) (hs : SbsAt w (.slice ps su.length zs) su) (hf : FdsAt w (.slice pf fd.length zf) fd) (hx : fr.length ≤ 60) (hl : ∀ i, i < fd.length → (fdv fd i).fr.length ≤ 60) :
    ∃ (fr2 : Txt) (tz2 st2 ti2 : Int) (b2 : Bool) (su2 : List Sb) (fd2 : List Fdr) (pf2 : Option Addr) (zf2 : Nat) (m : Int), TabOk su2 ∧ fd2.length ≤ 1000 ∧ FdsAt w (.slice pf2 fd2.length zf2) fd2 ∧
      (∀ W, Below w.heap.size w W → Env W → Calls Tryz.prog 22 #[.agg #[.string ⟨(fr).toArray⟩, .int .i64 tz, .int .i64 st, .int .i64 ti, .bool (bl), (.slice ps su.length zs), (.slice pf fd.length zf)], .agg #[.int .i64 sk, .int .i64 sn]] W fun e w' => ∃ pp cc, e = .returned (.tuple #[.agg #[.string ⟨(fr2).toArray⟩, .int .i64 tz2, .int .i64 st2, .int .i64 ti2, .bool (b2), .slice pp su2.length cc, .slice pf2 fd2.length zf2], .int .i64 m]) ∧ SbsAt w' (.slice pp su2.length cc) su2 ∧ Below W.heap.size W w') ∧
      (∀ W, Below w.heap.size w W → Calls Tryz.prog 23 #[.agg #[.string ⟨(fr).toArray⟩, .int .i64 tz, .int .i64 st, .int .i64 ti, .bool (bl), (.slice ps su.length zs), (.slice pf fd.length zf)], .agg #[.int .i64 sk, .int .i64 sn]] W fun e w' => ∃ pp cc, e = .returned (.tuple #[.agg #[.string ⟨(fr2).toArray⟩, .int .i64 tz2, .int .i64 st2, .int .i64 ti2, .bool (b2), .slice pp su2.length cc, .slice pf2 fd2.length zf2], .int .i64 m]) ∧ SbsK w W w' (.slice pp su2.length cc) su2 ∧ Below W.heap.size W w') := by
  by_cases hz : wfE fr tz st ti su fd sk sn = 0
  · obtain ⟨h0, hw⟩ := wfE_zero hz
    obtain ⟨m1, m2, m3⟩ := maE_zero h0
    exact ⟨_, _, _, _, _, (aSu [(sk, sn)] su), fd, pf, zf, 0, aSu_tab _ (tabOk m2), by have := (facOk m3).few; omega, hf, fun W hb e => own_mwo_ok tz st ti bl fr (.slice ps su.length zs) (.slice pf fd.length zf) su fd sk sn W (SbsAt.kept hs hb) (FdsAt.kept hf hb) hx hl h0 hw e, fun W hb => r30_mwo_ok tz st ti bl fr (.slice ps su.length zs) (.slice pf fd.length zf) su fd sk sn W w hs hb (FdsAt.kept hf hb) hx hl h0 hw⟩
  · exact ⟨[], 0, 0, 0, false, [], [], none, 0, wfE fr tz st ti su fd sk sn, tab_nil, Nat.zero_le _, fds_nil w, fun W hb e => (own_mwo_no tz st ti bl fr (.slice ps su.length zs) (.slice pf fd.length zf) su fd sk sn W (SbsAt.kept hs hb) (FdsAt.kept hf hb) hx hl hz e).mono fun e w' h => ⟨none, 0, h.1, sbs_nil _, h.2⟩, fun W hb => (r30_mwo_no tz st ti bl fr (.slice ps su.length zs) (.slice pf fd.length zf) su fd sk sn W (SbsAt.kept hs hb) (FdsAt.kept hf hb) hx hl hz).mono fun e w' h => ⟨none, 0, h.1, SbsK.nil, h.2⟩⟩

set_option maxRecDepth 100000 in
set_option maxHeartbeats 8000000 in
theorem law_frees (fr : Txt) (tz st ti : Int) (bl : Bool) (sv fv : Value) (su : List Sb) (fd : List Fdr) (sk : Int) (sn : Int) (w : World) (hl0 : fr.length ≤ 9223372036854775807) (hs : SbsAt w sv su) (hf : FdsAt w fv fd) (hrsk : (-9223372036854775808 ≤ sk ∧ sk ≤ 9223372036854775807)) (hrsn : (-9223372036854775808 ≤ sn ∧ sn ≤ 9223372036854775807)) (env : Env w) :
    Calls Tryz.prog 4 #[.agg #[.string ⟨(fr).toArray⟩, .int .i64 tz, .int .i64 st, .int .i64 ti, .bool (bl), sv, fv], .agg #[.int .i64 sk, .int .i64 sn]] w fun e w' => e = .returned (.bool (true)) ∧ Below w.heap.size w w' := by
  obtain ⟨ps, zs, rfl⟩ : ∃ ps zs, sv = .slice ps su.length zs := by obtain ⟨a, b, e, -⟩ := hs; exact ⟨a, b, e⟩
  obtain ⟨pf, zf, rfl⟩ : ∃ pf zf, fv = .slice pf fd.length zf := by obtain ⟨a, b, e, -⟩ := hf; exact ⟨a, b, e⟩
  have ENV := Lib.hid env; clear env
  have HS0 := Lib.hid hs
  have HF0 := Lib.hid hf
  have hal := ((Below.refl w.heap.size w).alloc (Nat.le_refl _) (.cells #[.string ⟨(fr).toArray⟩, .int .i64 tz, .int .i64 st, .int .i64 ti, .bool (bl), (.slice ps su.length zs), (.slice pf fd.length zf)] 28)).alloc (by simp) (.cells #[.int .i64 sk, .int .i64 sn] 43)
  have HS := Lib.hid (SbsAt.kept hs hal)
  have HF := Lib.hid (FdsAt.kept hf hal)
  have HB := Lib.hid hal
  clear hal hs hf
  have HK := Lib.hid ((Blk.new w 28 #[.string ⟨(fr).toArray⟩, .int .i64 tz, .int .i64 st, .int .i64 ti, .bool (bl), (.slice ps su.length zs), (.slice pf fd.length zf)]).alloc (.cells #[.int .i64 sk, .int .i64 sn] 43))
  have hR := Blk.new (w.alloc (.cells #[.string ⟨(fr).toArray⟩, .int .i64 tz, .int .i64 st, .int .i64 ti, .bool (bl), (.slice ps su.length zs), (.slice pf fd.length zf)] 28)) 43 #[.int .i64 sk, .int .i64 sn]
  rw [World.size_alloc] at hR
  have HX := Lib.hid hR; clear hR
  obtain ⟨k0, k1, k2, k3, k4, k5, k6, kf0, kf1, kf2, kf3, kf4, kf5, kf6⟩ := HK.out.c7
  obtain ⟨x0, x1, xf0, xf1⟩ := HX.out.c2
  have haw := fun W (e : Env W) => l30_awake W e
  have how := fun W => l30_own tz st ti bl fr ps pf su.length zs fd.length zf W
  have hfe := fun W (h1 : SbsAt W (.slice ps su.length zs) su) (h2 : FdsAt W (.slice pf fd.length zf) fd) => r30_few tz st ti bl fr (.slice ps su.length zs) (.slice pf fd.length zf) su fd W h1 h2
  have HAW := Lib.hid haw; clear haw
  have HOW := Lib.hid how; clear how
  have HFE := Lib.hid hfe; clear hfe
  go_enter Tryz.func4, Tryz.ntmps4
  go_wp2_with (first | (with_reducible refine ((HOW.out _).mono ?_); rintro e w' ⟨rfl, hb⟩; replace HK := Lib.hid (HK.out.keep hb); clear k0 k1 k2 k3 k4 k5 k6 kf0 kf1 kf2 kf3 kf4 kf5 kf6; replace HX := Lib.hid (HX.out.keep hb); clear x0 x1 xf0 xf1; replace HS := Lib.hid (SbsAt.kept HS.out hb); replace HF := Lib.hid (FdsAt.kept HF.out hb); replace HB := Lib.hid (bch' HB.out hb); clear hb; obtain ⟨k0, k1, k2, k3, k4, k5, k6, kf0, kf1, kf2, kf3, kf4, kf5, kf6⟩ := HK.out.c7; obtain ⟨x0, x1, xf0, xf1⟩ := HX.out.c2))
  refine ((HFE.out _ HS.out HF.out).mono ?_)
  rintro e w2 ⟨b1, rfl, hq, hb⟩
  replace HK := Lib.hid (HK.out.keep hb); clear k0 k1 k2 k3 k4 k5 k6 kf0 kf1 kf2 kf3 kf4 kf5 kf6; replace HX := Lib.hid (HX.out.keep hb); clear x0 x1 xf0 xf1; replace HS := Lib.hid (SbsAt.kept HS.out hb); replace HF := Lib.hid (FdsAt.kept HF.out hb); replace HB := Lib.hid (bch' HB.out hb); clear hb; obtain ⟨k0, k1, k2, k3, k4, k5, k6, kf0, kf1, kf2, kf3, kf4, kf5, kf6⟩ := HK.out.c7; obtain ⟨x0, x1, xf0, xf1⟩ := HX.out.c2
  cases b1
  · go_wp2_with (first | (with_reducible refine ((HAW.out _ (ENV.out.below HB.out)).mono ?_); rintro e w' ⟨rfl, hb⟩; replace HK := Lib.hid (HK.out.keep hb); clear k0 k1 k2 k3 k4 k5 k6 kf0 kf1 kf2 kf3 kf4 kf5 kf6; replace HX := Lib.hid (HX.out.keep hb); clear x0 x1 xf0 xf1; replace HS := Lib.hid (SbsAt.kept HS.out hb); replace HF := Lib.hid (FdsAt.kept HF.out hb); replace HB := Lib.hid (bch' HB.out hb); clear hb; obtain ⟨k0, k1, k2, k3, k4, k5, k6, kf0, kf1, kf2, kf3, kf4, kf5, kf6⟩ := HK.out.c7; obtain ⟨x0, x1, xf0, xf1⟩ := HX.out.c2))
    go_ret
    exact ⟨rfl, HB.out⟩
  · obtain ⟨hx, hl⟩ := hq rfl
    clear hq
    obtain ⟨fr2, tz2, st2, ti2, b2, su2, fd2, pf2, zf2, m, hto, hfd, hfa2, hof, hrf⟩ := g30_wo tz st ti bl fr ps pf zs zf su fd sk sn w HS0.out HF0.out hx hl
    have how2 := fun W p c => l30_own tz2 st2 ti2 b2 fr2 p pf2 su2.length c fd2.length zf2 W
    have hsa := fun W p c p4 c4 (h1 : SbsAt W (.slice p su2.length c) su2) (h2 : SbsAt W (.slice p4 su2.length c4) su2) (h : FdsAt W (.slice pf2 fd2.length zf2) fd2) => r30_same tz2 st2 ti2 b2 fr2 (.slice p su2.length c) (.slice pf2 fd2.length zf2) (.slice p4 su2.length c4) (.slice pf2 fd2.length zf2) su2 fd2 W h1 h h2 h hto (by omega)
    have HFA2 := Lib.hid hfa2
    clear hto hfd hl hfa2
    have HOF := Lib.hid hof; clear hof
    have HRF := Lib.hid hrf; clear hrf
    have HOW2 := Lib.hid how2; clear how2
    have HSA := Lib.hid hsa; clear hsa
    go_upto_region 4 with ((with_reducible refine ((HOF.out _ HB.out (ENV.out.below HB.out)).mono ?_); rintro e w' ⟨pp, cc, rfl, hsp, hb⟩; have HSP0 := Lib.hid hsp; clear hsp; replace HK := Lib.hid (HK.out.keep hb); clear k0 k1 k2 k3 k4 k5 k6 kf0 kf1 kf2 kf3 kf4 kf5 kf6; replace HX := Lib.hid (HX.out.keep hb); clear x0 x1 xf0 xf1; replace HS := Lib.hid (SbsAt.kept HS.out hb); replace HF := Lib.hid (FdsAt.kept HF.out hb); replace HB := Lib.hid (bch' HB.out hb); clear hb; obtain ⟨k0, k1, k2, k3, k4, k5, k6, kf0, kf1, kf2, kf3, kf4, kf5, kf6⟩ := HK.out.c7; obtain ⟨x0, x1, xf0, xf1⟩ := HX.out.c2))
    have HA := Lib.hid (Blk.new w' 28 #[.string ⟨(fr2).toArray⟩, .int .i64 tz2, .int .i64 st2, .int .i64 ti2, .bool (b2), .slice pp su2.length cc, .slice pf2 fd2.length zf2])
    have HSP := Lib.hid (SbsAt.kept HSP0.out ((Below.refl w'.heap.size w').alloc (Nat.le_refl _) (.cells #[.string ⟨(fr2).toArray⟩, .int .i64 tz2, .int .i64 st2, .int .i64 ti2, .bool (b2), .slice pp su2.length cc, .slice pf2 fd2.length zf2] 28)))
    clear HSP0
    have HK2 := Lib.hid (HK.out.alloc (.cells #[.string ⟨(fr2).toArray⟩, .int .i64 tz2, .int .i64 st2, .int .i64 ti2, .bool (b2), .slice pp su2.length cc, .slice pf2 fd2.length zf2] 28))
    have HX2 := Lib.hid (HX.out.alloc (.cells #[.string ⟨(fr2).toArray⟩, .int .i64 tz2, .int .i64 st2, .int .i64 ti2, .bool (b2), .slice pp su2.length cc, .slice pf2 fd2.length zf2] 28))
    have HB2 := Lib.hid (HB.out.alloc HB.out.size (.cells #[.string ⟨(fr2).toArray⟩, .int .i64 tz2, .int .i64 st2, .int .i64 ti2, .bool (b2), .slice pp su2.length cc, .slice pf2 fd2.length zf2] 28))
    clear k0 k1 k2 k3 k4 k5 k6 kf0 kf1 kf2 kf3 kf4 kf5 kf6; clear x0 x1 xf0 xf1
    clear HK HX HB HS HF
    generalize w'.alloc (.cells #[.string ⟨(fr2).toArray⟩, .int .i64 tz2, .int .i64 st2, .int .i64 ti2, .bool (b2), .slice pp su2.length cc, .slice pf2 fd2.length zf2] 28) = w4 at *
    generalize w'.heap.size = G5 at *
    have HK := HK2; have HX := HX2; have HB := HB2; clear HK2 HX2 HB2
    have HBO : Hid (∀ W', Below w4.heap.size w4 W' → (W'.cell? ⟨w.heap.size, 0, none⟩ = some (.string ⟨(fr).toArray⟩) ∧ W'.cell? ⟨w.heap.size, 1, none⟩ = some (.int .i64 tz) ∧ W'.cell? ⟨w.heap.size, 2, none⟩ = some (.int .i64 st) ∧ W'.cell? ⟨w.heap.size, 3, none⟩ = some (.int .i64 ti) ∧ W'.cell? ⟨w.heap.size, 4, none⟩ = some (.bool (bl)) ∧ W'.cell? ⟨w.heap.size, 5, none⟩ = some ((.slice ps su.length zs)) ∧ W'.cell? ⟨w.heap.size, 6, none⟩ = some ((.slice pf fd.length zf)) ∧ W'.cell? ⟨(w.heap.size + 1), 0, none⟩ = some (.int .i64 sk) ∧ W'.cell? ⟨(w.heap.size + 1), 1, none⟩ = some (.int .i64 sn) ∧ Below w4.heap.size w4 W')) := Lib.hid fun W' hs => ⟨(HK.out.keep hs).c7.1, (HK.out.keep hs).c7.2.1, (HK.out.keep hs).c7.2.2.1, (HK.out.keep hs).c7.2.2.2.1, (HK.out.keep hs).c7.2.2.2.2.1, (HK.out.keep hs).c7.2.2.2.2.2.1, (HK.out.keep hs).c7.2.2.2.2.2.2.1, (HX.out.keep hs).c2.1, (HX.out.keep hs).c2.2.1, hs⟩
    have HS1 : Hid (Below w4.heap.size w4 w4) := Lib.hid (Below.refl _ _)
    have HKE : Hid (∀ A B, Below w4.heap.size w4 A → Below A.heap.size A B → Below w4.heap.size w4 B) := Lib.hid fun A B h hb => bch' h hb
    have HKD : Hid (∀ A, Below w4.heap.size w4 A → Below w4.heap.size w4 A.drew) := Lib.hid fun A h => h.drew
    have HKA : Hid (∀ A c, Below w4.heap.size w4 A → Below w4.heap.size w4 (A.alloc c)) := Lib.hid fun A c h => h.alloc h.size c
    have HSE : Hid (∀ (A : World) (n : Nat) (c : Array Value) (v0 v1 v2 v3 v4 v5 v6 : Value), Below w4.heap.size w4 A → w4.heap.size ≤ n → Blk A n 32 c → Below w4.heap.size w4 (((((((A.setCell ⟨n, 0, none⟩ v0).setCell ⟨n, 1, none⟩ v1).setCell ⟨n, 2, none⟩ v2).setCell ⟨n, 3, none⟩ v3).setCell ⟨n, 4, none⟩ v4).setCell ⟨n, 5, none⟩ v5).setCell ⟨n, 6, none⟩ v6)) := Lib.hid fun A n c v0 v1 v2 v3 v4 v5 v6 h hn hb => bset7 h hn v0 v1 v2 v3 v4 v5 v6
    have HWB : Hid (∀ A, Below w4.heap.size w4 A → Below w.heap.size w A) := Lib.hid fun A h => bch' HB.out h
    clear HK HX
    go_cut [7, 8] (fun s7 s8 wx => ∃ (n : Nat) (p4 : Option Addr) (c4 : Nat), s7 = .pointer (some ⟨n, 0, none⟩) ∧ s8 = .int .i64 m ∧ Hid (Below w4.heap.size w4 wx) ∧ Hid (Blk wx n 32 #[.string ⟨(fr2).toArray⟩, .int .i64 tz2, .int .i64 st2, .int .i64 ti2, .bool (b2), .slice p4 su2.length c4, .slice pf2 fd2.length zf2]) ∧ Hid (SbsAt wx (.slice p4 su2.length c4) su2))
    case first =>
      go_region_held3 (fun W' => W'.cell? ⟨w.heap.size, 0, none⟩ = some (.string ⟨(fr).toArray⟩) ∧ W'.cell? ⟨w.heap.size, 1, none⟩ = some (.int .i64 tz) ∧ W'.cell? ⟨w.heap.size, 2, none⟩ = some (.int .i64 st) ∧ W'.cell? ⟨w.heap.size, 3, none⟩ = some (.int .i64 ti) ∧ W'.cell? ⟨w.heap.size, 4, none⟩ = some (.bool (bl)) ∧ W'.cell? ⟨w.heap.size, 5, none⟩ = some ((.slice ps su.length zs)) ∧ W'.cell? ⟨w.heap.size, 6, none⟩ = some ((.slice pf fd.length zf)) ∧ W'.cell? ⟨(w.heap.size + 1), 0, none⟩ = some (.int .i64 sk) ∧ W'.cell? ⟨(w.heap.size + 1), 1, none⟩ = some (.int .i64 sn) ∧ Below w4.heap.size w4 W') (with_reducible refine HBO.out _ ?_; ((repeat (first | with_reducible refine HSE.out _ _ _ _ _ _ _ _ _ _ ?_ HZ.1 HZ.2.1 | with_reducible refine HKE.out _ _ ?_ hb9 | with_reducible refine HKE.out _ _ ?_ hb8 | with_reducible refine HKA.out _ _ ?_ | with_reducible refine HKD.out _ ?_)); with_reducible exact HS1.out)) (first | (go_at_call 17; with_reducible refine (HOW.out _).mono ?_; rintro e w8 ⟨rfl, hb8⟩) | (go_at_call 23; with_reducible refine (HRF.out _ (HWB.out _ (by ((repeat (first | with_reducible refine HSE.out _ _ _ _ _ _ _ _ _ _ ?_ HZ.1 HZ.2.1 | with_reducible refine HKE.out _ _ ?_ hb9 | with_reducible refine HKE.out _ _ ?_ hb8 | with_reducible refine HKA.out _ _ ?_ | with_reducible refine HKD.out _ ?_)); with_reducible exact HS1.out)))).mono ?_; rintro e w9 ⟨p4, c4, rfl, hsk, hb9⟩; have HSK := Lib.hid hsk; clear hsk; first | (with_reducible refine use3 (And.intro (Nat.le_refl _) (And.intro (Blk.keep (Blk.keep (Blk.drew (blk_newE rfl)) hb8) hb9) (Blk.lt (Blk.keep (Blk.drew (blk_newE rfl)) hb8))) : w4.heap.size ≤ w4.heap.size ∧ Blk w9 w4.heap.size 32 #[.string ⟨#[]⟩, .int .i64 0, .int .i64 0, .int .i64 0, .bool false, .slice none 0 0, .slice none 0 0] ∧ w4.heap.size < w8.heap.size) (fun HZ => ?_); obtain ⟨y0, y1, y2, y3, y4, y5, y6, yf0, yf1, yf2, yf3, yf4, yf5, yf6⟩ := HZ.2.1.c7) | (with_reducible refine use3 (And.intro (Below.size (HKE.out _ _ (HKD.out _ HS1.out) hb8)) (And.intro (Blk.keep (blk_newE rfl) hb9) (Blk.lt (blk_newE rfl))) : w4.heap.size ≤ w8.heap.size ∧ Blk w9 w8.heap.size 32 #[.string ⟨#[]⟩, .int .i64 0, .int .i64 0, .int .i64 0, .bool false, .slice none 0 0, .slice none 0 0] ∧ w8.heap.size < (w8.alloc (.cells #[.string ⟨#[]⟩, .int .i64 0, .int .i64 0, .int .i64 0, .bool false, .slice none 0 0, .slice none 0 0] 32)).heap.size) (fun HZ => ?_); obtain ⟨y0, y1, y2, y3, y4, y5, y6, yf0, yf1, yf2, yf3, yf4, yf5, yf6⟩ := HZ.2.1.c7) | skip))
      all_goals (go_wp2_with fail; go_meet; refine ⟨_, p4, c4, rfl, rfl, Lib.hid ?_, Lib.hid ?_, Lib.hid ?_⟩)
      all_goals first | (with_reducible refine SbsK.sub HSK.out (HWB.out _ ?_) ?_) | skip
      all_goals first | ((repeat (first | with_reducible refine HSE.out _ _ _ _ _ _ _ _ _ _ ?_ HZ.1 HZ.2.1 | with_reducible refine HKE.out _ _ ?_ hb9 | with_reducible refine HKE.out _ _ ?_ hb8 | with_reducible refine HKA.out _ _ ?_ | with_reducible refine HKD.out _ ?_)); with_reducible exact HS1.out) | (intro g h1 h2; first | exact far_set7 (B := g) (w := w9) (w' := w9) (fun _ _ => rfl) (Nat.lt_of_lt_of_le HZ.2.2 h1) _ _ _ _ _ _ _ g (Nat.le_refl _) | exact ((Below.refl w9.heap.size w9).alloc (Nat.le_refl _) _).block g h2) | exact Blk.all7 HZ.2.1 _ _ _ _ _ _ _ | exact blk_newE rfl
    case rest =>
      obtain ⟨n, p4, c4, rfl, rfl, HSS, HN, HSQ⟩ := hcut
      have HB4 := HSS
      replace HB := Lib.hid (HWB.out _ HSS.out)
      replace HA := Lib.hid (HA.out.keep HSS.out)
      replace HSP := Lib.hid (SbsAt.kept HSP.out HSS.out)
      have HF := Lib.hid (FdsAt.kept HFA2.out HB.out)
      clear HSS HB4 HSE HKE HKA HKD HS1 HBO HWB HFA2
      go_wp2_with fail
      have a0 := fun p : BelowOf _ => (HA.out.keep p.h).c7.1
      have a1 := fun p : BelowOf _ => (HA.out.keep p.h).c7.2.1
      have a2 := fun p : BelowOf _ => (HA.out.keep p.h).c7.2.2.1
      have a3 := fun p : BelowOf _ => (HA.out.keep p.h).c7.2.2.2.1
      have a4 := fun p : BelowOf _ => (HA.out.keep p.h).c7.2.2.2.2.1
      have a5 := fun p : BelowOf _ => (HA.out.keep p.h).c7.2.2.2.2.2.1
      have a6 := fun p : BelowOf _ => (HA.out.keep p.h).c7.2.2.2.2.2.2.1
      have n0 := fun p : BelowOf _ => (HN.out.keep p.h).c7.1
      have n1 := fun p : BelowOf _ => (HN.out.keep p.h).c7.2.1
      have n2 := fun p : BelowOf _ => (HN.out.keep p.h).c7.2.2.1
      have n3 := fun p : BelowOf _ => (HN.out.keep p.h).c7.2.2.2.1
      have n4 := fun p : BelowOf _ => (HN.out.keep p.h).c7.2.2.2.2.1
      have n5 := fun p : BelowOf _ => (HN.out.keep p.h).c7.2.2.2.2.2.1
      have n6 := fun p : BelowOf _ => (HN.out.keep p.h).c7.2.2.2.2.2.2.1
      refine wp_region_WQ (by kernel_rfl) (by kernel_rfl) ?_
      repeat (refine WQ.step (fun K hK => ?_); go_simp; first | (refine hK.out _ ?_; clear hK K) | (apply Exists.intro; refine ⟨fun _ => ?_, hK.out _ ?_⟩; (first | rfl | (go_at_call 18; exact calls_below_of _ (HAW.out _ (ENV.out.below (bch' HB.out (BelowOf.h _))))) | (go_at_call 17; exact calls_below_of _ (HOW2.out _ _ _)) | (go_at_call 21; exact calls_below_of _ (HSA.out _ _ _ _ _ (SbsAt.kept HSP.out (BelowOf.h _)) (SbsAt.kept HSQ.out (BelowOf.h _)) (FdsAt.kept HF.out (BelowOf.h _))))); clear hK K))
      refine WQ.nil ?_
      intro _ hw'
      obtain ⟨⟨wq, hbq⟩, hw2⟩ := hw'
      subst hw2
      replace HB := Lib.hid (bch' HB.out hbq)
      clear a0 a1 a2 a3 a4 a5 a6 n0 n1 n2 n3 n4 n5 n6
      go_wp2_with fail
      go_ret
      exact ⟨rfl, HB.out⟩
end Go.Proofs.YtkjelfmgnkkijaaGreatDoor
