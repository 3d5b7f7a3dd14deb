/-
  The reference of layer 30: Few, Check, Main, Scale. The reference of layer 30: Factor; the law MasterScales.
-/
import Derived.Test.YtjagoloohhjjeaaGreatDoorMw
import Derived.Test.YtjagoloohhjjeaaGreatDoorR26
import Derived.Test.YtjagoloohhjjeaaGreatDoorR27
import Derived.Test.YtjagoloohhjjeaaGreatDoorR28
import Derived.Test.YtjagoloohhjjeaaGreatDoorQc
import Derived.Test.YtjagoloohhjjeaaGreatDoorHw
set_option linter.unusedVariables false
set_option linter.unusedSimpArgs false
namespace Lum
open Go Go.RowKit Go.Shelf
open Go.Lib (decDigits itoa)
/-- A call that says whether something is few; if it says so, p. -/
def FewB (p : Prop) (w : World) (e : Ending) (w' : World) : Prop := ∃ b, e = .returned (.bool b) ∧ (b = true → p) ∧ Below w.heap.size w w'
end Lum
namespace Go.Proofs.YtjagoloohhjjeaaGreatDoor
open Go.RowKit Go.Shelf Lum
open Go.Lib (decDigits itoa)
attribute [local go_sem] bs_get bs_extract_end bs_extract_from bs_extract bs_append

set_option maxRecDepth 100000 in
set_option maxHeartbeats 4000000 in
theorem l30_own (tz st ti : Int) (bl : Bool) (fr : Txt) (ps pf : Option Addr) (n zs m zf : Nat) (w : World) : Calls Tryz.prog 12 #[.agg #[.string ⟨(fr).toArray⟩, .int .i64 tz, .int .i64 st, .int .i64 ti, .bool (bl), .slice ps n zs, .slice pf m zf]] w fun e w' => e = .returned (.agg #[.string ⟨(fr).toArray⟩, .int .i64 tz, .int .i64 st, .int .i64 ti, .bool (bl), .slice ps n zs, .slice pf m zf]) ∧ Below w.heap.size w w' := by
  go_enter Tryz.func12, Tryz.ntmps12
  go_wp2_with fail
  refine bodyPost_ret_by (v := .agg #[.string ⟨(fr).toArray⟩, .int .i64 tz, .int .i64 st, .int .i64 ti, .bool (bl), .slice ps n zs, .slice pf m zf]) (by simp [results, Tryz.f12, go_sem]) rfl ⟨rfl, ?_⟩
  exact ((Below.refl _ _).alloc (Nat.le_refl _) _).alloc (by simp) _

set_option maxRecDepth 100000 in
set_option maxHeartbeats 4000000 in
theorem r26_few (su : List Sb) (sv : Value) (w : World) (hv : SbsAt w sv su) :
    Calls Tryz.prog 42 #[sv] w fun e w' => FewB True w e w' := by
  obtain ⟨p, c, rfl, -, hv1⟩ := hv
  have hv2 := Lib.hid hv1; clear hv1
  have HB := Lib.hid (Below.refl w.heap.size w)
  go_enter Tryz.func42, Tryz.ntmps42
  go_wp2_with fail
  go_loopw [3] (fun i wr => ∃ k r : Nat, i = .int .i64 (k : Int) ∧ Hid (k + r = su.length) ∧ Hid (Below w.heap.size w wr)) (fun i _ => su.length - (intOf i).toNat)
  case atStart => exact ⟨0, su.length, rfl, Lib.hid (by omega), HB⟩
  case round =>
    obtain ⟨k, r, rfl, hkr, HB2⟩ := hrel
    clear HB
    have HB := HB2; clear HB2
    cases r with
    | zero =>
      have hlt : ¬ (k : Int) < (su.length : Int) := by have := hkr.out; omega
      go_wp2
      go_ret
      exact ⟨_, rfl, fun _ => trivial, HB.out⟩
    | succ r =>
      have hkl : k < su.length := by have := hkr.out; omega
      have hlt : (k : Int) < (su.length : Int) := by omega
      by_cases h40 : (k : Int) < 40
      · obtain ⟨b, o, rfl, hb, hC⟩ := hv2.out (fun h => by subst h; simp at hkl)
        obtain ⟨x1, x2, x3, gv, x4, hgn⟩ := hC.below HB.out hb k hkl
        obtain ⟨pg, cg, rfl, -⟩ := hgn
        clear hC
        have hbr : b < wr.heap.size := by have := HB.out.size; omega
        have hun : IntKind.i64.wrap ((k : Int) + 1) = (k : Int) + 1 := IntWalk.i64_in _ (by omega)
        by_cases h30 : (30 : Int) < ((sbv su k).gs.length : Int)
        · by_cases h128 : ((sbv su k).gs.length : Int) ≤ 128
          · go_wp2
            go_ret
            exact ⟨_, rfl, fun _ => trivial, HB.out⟩
          · go_wp2
            go_roundw
            case rel => exact ⟨k + 1, r, by first | rfl | simp, Lib.hid (by have := hkr.out; omega), HB⟩
            case measure => first | (simp [intOf]; done) | (simp [intOf]; omega)
        · go_wp2
          go_roundw
          case rel => exact ⟨k + 1, r, by first | rfl | simp, Lib.hid (by have := hkr.out; omega), HB⟩
          case measure => first | (simp [intOf]; done) | (simp [intOf]; omega)
      · go_wp2
        go_ret
        exact ⟨_, rfl, fun _ => trivial, HB.out⟩

set_option maxRecDepth 100000 in
set_option maxHeartbeats 4000000 in
theorem r26_fewfaders (fd : List Fdr) (fv : Value) (w : World) (hv : FdsAt w fv fd) :
    Calls Tryz.prog 43 #[fv] w fun e w' => FewB (∀ i, i < fd.length → (fdv fd i).fr.length ≤ 60) w e w' := by
  obtain ⟨p, c, rfl, -, hv1⟩ := hv
  have hv2 := Lib.hid hv1; clear hv1
  have HB := Lib.hid (Below.refl w.heap.size w)
  go_enter Tryz.func43, Tryz.ntmps43
  go_wp2_with fail
  go_loopw [3] (fun i wr => ∃ k r : Nat, i = .int .i64 (k : Int) ∧ Hid (k + r = fd.length) ∧ Hid (Below w.heap.size w wr) ∧ Hid (∀ j, j < k → (fdv fd j).fr.length ≤ 60)) (fun i _ => fd.length - (intOf i).toNat)
  case atStart => exact ⟨0, fd.length, rfl, Lib.hid (by omega), HB, Lib.hid (fun j h => absurd h (Nat.not_lt_zero j))⟩
  case round =>
    obtain ⟨k, r, rfl, hkr, HB2, HN⟩ := hrel
    clear HB
    have HB := HB2; clear HB2
    cases r with
    | zero =>
      have hlt : ¬ (k : Int) < (fd.length : Int) := by have := hkr.out; omega
      go_wp2
      go_ret
      exact ⟨_, rfl, fun _ i hi => HN.out i (by have := hkr.out; omega), HB.out⟩
    | succ r =>
      have hkl : k < fd.length := by have := hkr.out; omega
      have hlt : (k : Int) < (fd.length : Int) := by omega
      by_cases h40 : (k : Int) < 40
      · obtain ⟨b, o, rfl, hb, hC⟩ := hv2.out (fun h => by subst h; simp at hkl)
        replace hC : FdsC w b o fd := hC
        obtain ⟨x1, x2, x3, x4, x5, x6⟩ := hC.below HB.out hb k hkl
        clear hC
        have hbr : b < wr.heap.size := by have := HB.out.size; omega
        have hun : IntKind.i64.wrap ((k : Int) + 1) = (k : Int) + 1 := IntWalk.i64_in _ (by omega)
        by_cases h60 : (60 : Int) < ((fdv fd k).fr.length : Int)
        · go_wp2
          go_ret
          exact ⟨_, rfl, fun h => absurd h (by decide), HB.out⟩
        · have HN2 : Hid (∀ j, j < k + 1 → (fdv fd j).fr.length ≤ 60) := fun j hj => by
            by_cases g : j = k
            · subst g; omega
            · exact HN.out j (by omega)
          go_wp2
          go_roundw
          case rel => exact ⟨k + 1, r, by first | rfl | simp, Lib.hid (by have := hkr.out; omega), HB, HN2⟩
          case measure => first | (simp [intOf]; done) | (simp [intOf]; omega)
      · have h41 : ¬ (fd.length : Int) ≤ 40 := by omega
        go_wp2
        go_ret
        exact ⟨_, rfl, fun h => absurd h (by decide), HB.out⟩

set_option maxRecDepth 100000 in
set_option maxHeartbeats 4000000 in
theorem r30_few (tz st ti : Int) (bl : Bool) (fr : Txt) (sv fv : Value) (su : List Sb) (fd : List Fdr) (w : World) (hs : SbsAt w sv su) (hf : FdsAt w fv fd) :
    Calls Tryz.prog 11 #[.agg #[.string ⟨(fr).toArray⟩, .int .i64 tz, .int .i64 st, .int .i64 ti, .bool (bl), sv, fv]] w fun e w' => FewB (fr.length ≤ 60 ∧ ∀ i, i < fd.length → (fdv fd i).fr.length ≤ 60) w e w' := by
  have hal := (Below.refl w.heap.size w).alloc (Nat.le_refl _) (.cells #[.string ⟨(fr).toArray⟩, .int .i64 tz, .int .i64 st, .int .i64 ti, .bool (bl), sv, fv] 30)
  have HS := Lib.hid (SbsAt.kept hs hal)
  have HF := Lib.hid (FdsAt.kept hf hal)
  have HB := Lib.hid hal
  clear hal hs hf
  have HK := Lib.hid (Blk.new w 30 #[.string ⟨(fr).toArray⟩, .int .i64 tz, .int .i64 st, .int .i64 ti, .bool (bl), sv, fv])
  obtain ⟨k0, k1, k2, k3, k4, k5, k6, kf0, kf1, kf2, kf3, kf4, kf5, kf6⟩ := HK.out.c7
  have hfs := fun W (h : SbsAt W sv su) => r26_few su sv W h
  have hff := fun W (h : FdsAt W fv fd) => r26_fewfaders fd fv W h
  have HFS := Lib.hid hfs; clear hfs
  have HFF := Lib.hid hff; clear hff
  by_cases h60 : (fr.length : Int) ≤ 60
  · go_enter Tryz.func11, Tryz.ntmps11
    go_wp2_with fail
    refine ((HFS.out _ HS.out).mono ?_)
    rintro e w2 ⟨b1, rfl, -, hb⟩
    replace HK := Lib.hid (HK.out.keep hb); clear k0 k1 k2 k3 k4 k5 k6 kf0 kf1 kf2 kf3 kf4 kf5 kf6; replace HS := Lib.hid (SbsAt.kept HS.out hb); replace HF := Lib.hid (FdsAt.kept HF.out hb); replace HB := Lib.hid (bch' HB.out hb); clear hb; obtain ⟨k0, k1, k2, k3, k4, k5, k6, kf0, kf1, kf2, kf3, kf4, kf5, kf6⟩ := HK.out.c7
    cases b1
    · go_wp2_with fail
      go_ret
      exact ⟨_, rfl, fun h => absurd h (by decide), HB.out⟩
    · go_wp2_with fail
      refine ((HFF.out _ HF.out).mono ?_)
      rintro e w3 ⟨b2, rfl, hq, hb⟩
      have HQ := Lib.hid hq; clear hq
      replace HK := Lib.hid (HK.out.keep hb); clear k0 k1 k2 k3 k4 k5 k6 kf0 kf1 kf2 kf3 kf4 kf5 kf6; replace HS := Lib.hid (SbsAt.kept HS.out hb); replace HF := Lib.hid (FdsAt.kept HF.out hb); replace HB := Lib.hid (bch' HB.out hb); clear hb; obtain ⟨k0, k1, k2, k3, k4, k5, k6, kf0, kf1, kf2, kf3, kf4, kf5, kf6⟩ := HK.out.c7
      go_wp2_with fail
      go_ret
      exact ⟨b2, rfl, fun h => ⟨by omega, HQ.out h⟩, HB.out⟩
  · go_enter Tryz.func11, Tryz.ntmps11
    go_wp2_with fail
    go_ret
    exact ⟨_, rfl, fun h => absurd h (by decide), HB.out⟩

set_option maxRecDepth 100000 in
set_option maxHeartbeats 4000000 in
theorem r30_check (tz st ti : Int) (bl : Bool) (fr : Txt) (sv fv : Value) (su : List Sb) (fd : List Fdr) (w : World) (hs : SbsAt w sv su) (hf : FdsAt w fv fd) (hx : fr.length ≤ 1000) (hl : ∀ i, i < fd.length → (fdv fd i).fr.length ≤ 1000) :
    Calls Tryz.prog 29 #[.agg #[.string ⟨(fr).toArray⟩, .int .i64 tz, .int .i64 st, .int .i64 ti, .bool (bl), sv, fv]] w fun e w' => e = .returned (.int .i64 (maE fr tz st ti su fd)) ∧ Below w.heap.size w w' := by
  have hal := (Below.refl w.heap.size w).alloc (Nat.le_refl _) (.cells #[.string ⟨(fr).toArray⟩, .int .i64 tz, .int .i64 st, .int .i64 ti, .bool (bl), sv, fv] 30)
  have HS := Lib.hid (SbsAt.kept hs hal)
  have HF := Lib.hid (FdsAt.kept hf hal)
  have HB := Lib.hid hal
  clear hal hs hf
  have HK := Lib.hid (Blk.new w 30 #[.string ⟨(fr).toArray⟩, .int .i64 tz, .int .i64 st, .int .i64 ti, .bool (bl), sv, fv])
  obtain ⟨k0, k1, k2, k3, k4, k5, k6, kf0, kf1, kf2, kf3, kf4, kf5, kf6⟩ := HK.out.c7
  have hc := fun W => r3_check fr tz st ti W hx
  have ht := fun W (h : SbsAt W sv su) => r26_table su sv W h
  have hd := fun W (h : FdsAt W fv fd) => r26_faders fd fv W h hl
  by_cases hz : glE fr tz st ti = 0
  · rw [hz] at hc
    by_cases h2 : tabE su = 0
    · rw [maE_fac hz h2]
      rw [h2] at ht
      clear hz h2
      generalize facE fd = m at *
      have HC := Lib.hid hc; clear hc
      have HT := Lib.hid ht; clear ht
      have HD := Lib.hid hd; clear hd
      go_enter Tryz.func29, Tryz.ntmps29
      go_wp2_with (first | (with_reducible refine ((HC.out _).mono ?_); rintro e w' ⟨rfl, hb⟩; replace HK := Lib.hid (HK.out.keep hb); clear k0 k1 k2 k3 k4 k5 k6 kf0 kf1 kf2 kf3 kf4 kf5 kf6; replace HS := Lib.hid (SbsAt.kept HS.out hb); replace HF := Lib.hid (FdsAt.kept HF.out hb); replace HB := Lib.hid (bch' HB.out hb); clear hb; obtain ⟨k0, k1, k2, k3, k4, k5, k6, kf0, kf1, kf2, kf3, kf4, kf5, kf6⟩ := HK.out.c7) | (with_reducible refine ((HT.out _ HS.out).mono ?_); rintro e w' ⟨rfl, hb⟩; replace HK := Lib.hid (HK.out.keep hb); clear k0 k1 k2 k3 k4 k5 k6 kf0 kf1 kf2 kf3 kf4 kf5 kf6; replace HS := Lib.hid (SbsAt.kept HS.out hb); replace HF := Lib.hid (FdsAt.kept HF.out hb); replace HB := Lib.hid (bch' HB.out hb); clear hb; obtain ⟨k0, k1, k2, k3, k4, k5, k6, kf0, kf1, kf2, kf3, kf4, kf5, kf6⟩ := HK.out.c7) | (with_reducible refine ((HD.out _ HF.out).mono ?_); rintro e w' ⟨rfl, hb⟩; replace HK := Lib.hid (HK.out.keep hb); clear k0 k1 k2 k3 k4 k5 k6 kf0 kf1 kf2 kf3 kf4 kf5 kf6; replace HS := Lib.hid (SbsAt.kept HS.out hb); replace HF := Lib.hid (FdsAt.kept HF.out hb); replace HB := Lib.hid (bch' HB.out hb); clear hb; obtain ⟨k0, k1, k2, k3, k4, k5, k6, kf0, kf1, kf2, kf3, kf4, kf5, kf6⟩ := HK.out.c7))
      go_ret
      exact ⟨rfl, HB.out⟩
    · rw [maE_tab hz h2]
      have hne : ((tabE su : Int) != 0) = true := by simpa using h2
      clear hz h2
      generalize tabE su = m at *
      have HC := Lib.hid hc; clear hc
      have HT := Lib.hid ht; clear ht
      have HD := Lib.hid hd; clear hd
      go_enter Tryz.func29, Tryz.ntmps29
      go_wp2_with (first | (with_reducible refine ((HC.out _).mono ?_); rintro e w' ⟨rfl, hb⟩; replace HK := Lib.hid (HK.out.keep hb); clear k0 k1 k2 k3 k4 k5 k6 kf0 kf1 kf2 kf3 kf4 kf5 kf6; replace HS := Lib.hid (SbsAt.kept HS.out hb); replace HF := Lib.hid (FdsAt.kept HF.out hb); replace HB := Lib.hid (bch' HB.out hb); clear hb; obtain ⟨k0, k1, k2, k3, k4, k5, k6, kf0, kf1, kf2, kf3, kf4, kf5, kf6⟩ := HK.out.c7) | (with_reducible refine ((HT.out _ HS.out).mono ?_); rintro e w' ⟨rfl, hb⟩; replace HK := Lib.hid (HK.out.keep hb); clear k0 k1 k2 k3 k4 k5 k6 kf0 kf1 kf2 kf3 kf4 kf5 kf6; replace HS := Lib.hid (SbsAt.kept HS.out hb); replace HF := Lib.hid (FdsAt.kept HF.out hb); replace HB := Lib.hid (bch' HB.out hb); clear hb; obtain ⟨k0, k1, k2, k3, k4, k5, k6, kf0, kf1, kf2, kf3, kf4, kf5, kf6⟩ := HK.out.c7) | (with_reducible refine ((HD.out _ HF.out).mono ?_); rintro e w' ⟨rfl, hb⟩; replace HK := Lib.hid (HK.out.keep hb); clear k0 k1 k2 k3 k4 k5 k6 kf0 kf1 kf2 kf3 kf4 kf5 kf6; replace HS := Lib.hid (SbsAt.kept HS.out hb); replace HF := Lib.hid (FdsAt.kept HF.out hb); replace HB := Lib.hid (bch' HB.out hb); clear hb; obtain ⟨k0, k1, k2, k3, k4, k5, k6, kf0, kf1, kf2, kf3, kf4, kf5, kf6⟩ := HK.out.c7))
      go_ret
      exact ⟨rfl, HB.out⟩
  · rw [maE_gl hz]
    have hne : ((glE fr tz st ti : Int) != 0) = true := by simpa using hz
    clear hz
    generalize glE fr tz st ti = m at *
    have HC := Lib.hid hc; clear hc
    have HT := Lib.hid ht; clear ht
    have HD := Lib.hid hd; clear hd
    go_enter Tryz.func29, Tryz.ntmps29
    go_wp2_with (first | (with_reducible refine ((HC.out _).mono ?_); rintro e w' ⟨rfl, hb⟩; replace HK := Lib.hid (HK.out.keep hb); clear k0 k1 k2 k3 k4 k5 k6 kf0 kf1 kf2 kf3 kf4 kf5 kf6; replace HS := Lib.hid (SbsAt.kept HS.out hb); replace HF := Lib.hid (FdsAt.kept HF.out hb); replace HB := Lib.hid (bch' HB.out hb); clear hb; obtain ⟨k0, k1, k2, k3, k4, k5, k6, kf0, kf1, kf2, kf3, kf4, kf5, kf6⟩ := HK.out.c7) | (with_reducible refine ((HT.out _ HS.out).mono ?_); rintro e w' ⟨rfl, hb⟩; replace HK := Lib.hid (HK.out.keep hb); clear k0 k1 k2 k3 k4 k5 k6 kf0 kf1 kf2 kf3 kf4 kf5 kf6; replace HS := Lib.hid (SbsAt.kept HS.out hb); replace HF := Lib.hid (FdsAt.kept HF.out hb); replace HB := Lib.hid (bch' HB.out hb); clear hb; obtain ⟨k0, k1, k2, k3, k4, k5, k6, kf0, kf1, kf2, kf3, kf4, kf5, kf6⟩ := HK.out.c7) | (with_reducible refine ((HD.out _ HF.out).mono ?_); rintro e w' ⟨rfl, hb⟩; replace HK := Lib.hid (HK.out.keep hb); clear k0 k1 k2 k3 k4 k5 k6 kf0 kf1 kf2 kf3 kf4 kf5 kf6; replace HS := Lib.hid (SbsAt.kept HS.out hb); replace HF := Lib.hid (FdsAt.kept HF.out hb); replace HB := Lib.hid (bch' HB.out hb); clear hb; obtain ⟨k0, k1, k2, k3, k4, k5, k6, kf0, kf1, kf2, kf3, kf4, kf5, kf6⟩ := HK.out.c7))
    go_ret
    exact ⟨rfl, HB.out⟩

set_option maxRecDepth 100000 in
set_option maxHeartbeats 4000000 in
theorem r30_channeled (tz st ti : Int) (bl : Bool) (fr : Txt) (sv fv : Value) (su : List Sb) (fd : List Fdr) (ch : Int) (w : World) (hs : SbsAt w sv su) (hf : FdsAt w fv fd) (hx : fr.length ≤ 1000) (hl : ∀ i, i < fd.length → (fdv fd i).fr.length ≤ 1000) :
    Calls Tryz.prog 51 #[.agg #[.string ⟨(fr).toArray⟩, .int .i64 tz, .int .i64 st, .int .i64 ti, .bool (bl), sv, fv], .int .i64 ch] w fun e w' => e = .returned (.int .i64 (onE fr tz st ti su fd ch)) ∧ Below w.heap.size w w' := by
  have hal := (Below.refl w.heap.size w).alloc (Nat.le_refl _) (.cells #[.string ⟨(fr).toArray⟩, .int .i64 tz, .int .i64 st, .int .i64 ti, .bool (bl), sv, fv] 30)
  have HS := Lib.hid (SbsAt.kept hs hal)
  have HF := Lib.hid (FdsAt.kept hf hal)
  have HB := Lib.hid hal
  clear hal hs hf
  have HK := Lib.hid (Blk.new w 30 #[.string ⟨(fr).toArray⟩, .int .i64 tz, .int .i64 st, .int .i64 ti, .bool (bl), sv, fv])
  obtain ⟨k0, k1, k2, k3, k4, k5, k6, kf0, kf1, kf2, kf3, kf4, kf5, kf6⟩ := HK.out.c7
  have hc := fun W (h1 : SbsAt W sv su) (h2 : FdsAt W fv fd) => r30_check tz st ti bl fr sv fv su fd W h1 h2 hx hl
  by_cases hz : maE fr tz st ti su fd = 0
  · rw [hz] at hc
    by_cases o1 : ch < 1
    · rw [onE_ch hz (by omega)]
      clear hz
      have HC := Lib.hid hc; clear hc
      go_enter Tryz.func51, Tryz.ntmps51
      go_wp2_with (first | (with_reducible refine ((HC.out _ HS.out HF.out).mono ?_); rintro e w' ⟨rfl, hb⟩; replace HK := Lib.hid (HK.out.keep hb); clear k0 k1 k2 k3 k4 k5 k6 kf0 kf1 kf2 kf3 kf4 kf5 kf6; replace HS := Lib.hid (SbsAt.kept HS.out hb); replace HF := Lib.hid (FdsAt.kept HF.out hb); replace HB := Lib.hid (bch' HB.out hb); clear hb; obtain ⟨k0, k1, k2, k3, k4, k5, k6, kf0, kf1, kf2, kf3, kf4, kf5, kf6⟩ := HK.out.c7))
      go_ret
      exact ⟨rfl, HB.out⟩
    by_cases o2 : 999 < ch
    · rw [onE_ch hz (by omega)]
      clear hz
      have HC := Lib.hid hc; clear hc
      go_enter Tryz.func51, Tryz.ntmps51
      go_wp2_with (first | (with_reducible refine ((HC.out _ HS.out HF.out).mono ?_); rintro e w' ⟨rfl, hb⟩; replace HK := Lib.hid (HK.out.keep hb); clear k0 k1 k2 k3 k4 k5 k6 kf0 kf1 kf2 kf3 kf4 kf5 kf6; replace HS := Lib.hid (SbsAt.kept HS.out hb); replace HF := Lib.hid (FdsAt.kept HF.out hb); replace HB := Lib.hid (bch' HB.out hb); clear hb; obtain ⟨k0, k1, k2, k3, k4, k5, k6, kf0, kf1, kf2, kf3, kf4, kf5, kf6⟩ := HK.out.c7))
      go_ret
      exact ⟨rfl, HB.out⟩
    rw [onE_ok hz (by omega)]
    clear hz
    have HC := Lib.hid hc; clear hc
    go_enter Tryz.func51, Tryz.ntmps51
    go_wp2_with (first | (with_reducible refine ((HC.out _ HS.out HF.out).mono ?_); rintro e w' ⟨rfl, hb⟩; replace HK := Lib.hid (HK.out.keep hb); clear k0 k1 k2 k3 k4 k5 k6 kf0 kf1 kf2 kf3 kf4 kf5 kf6; replace HS := Lib.hid (SbsAt.kept HS.out hb); replace HF := Lib.hid (FdsAt.kept HF.out hb); replace HB := Lib.hid (bch' HB.out hb); clear hb; obtain ⟨k0, k1, k2, k3, k4, k5, k6, kf0, kf1, kf2, kf3, kf4, kf5, kf6⟩ := HK.out.c7))
    go_ret
    exact ⟨rfl, HB.out⟩
  · rw [onE_ma hz]
    have hne : ((maE fr tz st ti su fd : Int) != 0) = true := by simpa using hz
    clear hz
    generalize maE fr tz st ti su fd = m at *
    have HC := Lib.hid hc; clear hc
    go_enter Tryz.func51, Tryz.ntmps51
    go_wp2_with (first | (with_reducible refine ((HC.out _ HS.out HF.out).mono ?_); rintro e w' ⟨rfl, hb⟩; replace HK := Lib.hid (HK.out.keep hb); clear k0 k1 k2 k3 k4 k5 k6 kf0 kf1 kf2 kf3 kf4 kf5 kf6; replace HS := Lib.hid (SbsAt.kept HS.out hb); replace HF := Lib.hid (FdsAt.kept HF.out hb); replace HB := Lib.hid (bch' HB.out hb); clear hb; obtain ⟨k0, k1, k2, k3, k4, k5, k6, kf0, kf1, kf2, kf3, kf4, kf5, kf6⟩ := HK.out.c7))
    go_ret
    exact ⟨rfl, HB.out⟩

set_option maxRecDepth 100000 in
set_option maxHeartbeats 4000000 in
theorem r30_main (tz st ti : Int) (bl : Bool) (fr : Txt) (sv fv : Value) (t : Int) (w : World) (hz : glE fr tz st ti = 0) (hx : fr.length ≤ 60) :
    Calls Tryz.prog 66 #[.agg #[.string ⟨(fr).toArray⟩, .int .i64 tz, .int .i64 st, .int .i64 ti, .bool (bl), sv, fv], .int .i64 t] w fun e w' => e = .returned (.string ⟨(showR (mainQ fr tz st ti bl t)).toArray⟩) ∧ Below w.heap.size w w' := by
  cases bl
  · have HK := Lib.hid (Blk.new w 30 #[.string ⟨(fr).toArray⟩, .int .i64 tz, .int .i64 st, .int .i64 ti, .bool false, sv, fv])
    have HB := Lib.hid ((Below.refl w.heap.size w).alloc (Nat.le_refl _) (.cells #[.string ⟨(fr).toArray⟩, .int .i64 tz, .int .i64 st, .int .i64 ti, .bool false, sv, fv] 30))
    obtain ⟨k0, k1, k2, k3, k4, k5, k6, kf0, kf1, kf2, kf3, kf4, kf5, kf6⟩ := HK.out.c7
    have hof : ∀ W, Calls Tryz.prog 111 #[.agg #[.string ⟨(fr).toArray⟩, .int .i64 tz, .int .i64 st, .int .i64 ti], .int .i64 t] W fun e w' => e = .returned (.string ⟨(showR (glV (valR fr) tz st ti t)).toArray⟩) ∧ Below W.heap.size W w' := by
      intro W
      obtain ⟨q, rfl, e2, hq, h2, h3, h4⟩ := glq hz
      rw [e2]
      exact r3_of q _ _ _ t W (by omega) h2 h3 h4
    have fl : Fits 182 (glV (valR fr) tz st ti t) := by obtain ⟨q, e1, e2, hq, h2, h3, h4⟩ := glq hz; rw [e2]; exact glV_fits t (fits_of_len (k := 60) (by rw [← e1]; exact hx)) h2.1 h2.2 h3.1 h3.2 h4.2
    have f1 := div65_fits (g := 1) (by omega) (by omega)
    have ho1 := fun W => r2_over 1 65535 W (by omega) (by omega) (by omega) (by omega) (by omega)
    have ht := fun W => r2_times (glV (valR fr) tz st ti t) (Rat.divInt 1 65535) W (fl.mono (by omega)) (f1.mono (by omega))
    rw [show mainQ fr tz st ti false t = glV (valR fr) tz st ti t * Rat.divInt 1 65535 from by show glV (valR fr) tz st ti t / ((65535 : Int) : Rat) = _; rw [Rat.divInt_eq_div, show ((1 : Int) : Rat) = 1 from rfl, Rat.div_def, Rat.div_def, Rat.one_mul]]
    clear fl f1
    generalize showR (glV (valR fr) tz st ti t * Rat.divInt 1 65535) = t2 at *
    generalize showR (glV (valR fr) tz st ti t) = t1 at *
    generalize showR (Rat.divInt 1 65535) = t3 at *
    have HOF := Lib.hid hof; clear hof
    have HO1 := Lib.hid ho1; clear ho1
    have HT := Lib.hid ht; clear ht
    go_enter Tryz.func66, Tryz.ntmps66
    go_wp2_with (first | (with_reducible refine ((HOF.out _).mono ?_); rintro e w' ⟨rfl, hb⟩; replace HK := Lib.hid (HK.out.keep hb); clear k0 k1 k2 k3 k4 k5 k6 kf0 kf1 kf2 kf3 kf4 kf5 kf6; replace HB := Lib.hid (bch' HB.out hb); clear hb; obtain ⟨k0, k1, k2, k3, k4, k5, k6, kf0, kf1, kf2, kf3, kf4, kf5, kf6⟩ := HK.out.c7) | (with_reducible refine ((HO1.out _).mono ?_); rintro e w' ⟨rfl, hb⟩; replace HK := Lib.hid (HK.out.keep hb); clear k0 k1 k2 k3 k4 k5 k6 kf0 kf1 kf2 kf3 kf4 kf5 kf6; replace HB := Lib.hid (bch' HB.out hb); clear hb; obtain ⟨k0, k1, k2, k3, k4, k5, k6, kf0, kf1, kf2, kf3, kf4, kf5, kf6⟩ := HK.out.c7) | (with_reducible refine ((HT.out _).mono ?_); rintro e w' ⟨rfl, hb⟩; replace HK := Lib.hid (HK.out.keep hb); clear k0 k1 k2 k3 k4 k5 k6 kf0 kf1 kf2 kf3 kf4 kf5 kf6; replace HB := Lib.hid (bch' HB.out hb); clear hb; obtain ⟨k0, k1, k2, k3, k4, k5, k6, kf0, kf1, kf2, kf3, kf4, kf5, kf6⟩ := HK.out.c7))
    go_ret
    exact ⟨rfl, HB.out⟩
  · have HK := Lib.hid (Blk.new w 30 #[.string ⟨(fr).toArray⟩, .int .i64 tz, .int .i64 st, .int .i64 ti, .bool true, sv, fv])
    have HB := Lib.hid ((Below.refl w.heap.size w).alloc (Nat.le_refl _) (.cells #[.string ⟨(fr).toArray⟩, .int .i64 tz, .int .i64 st, .int .i64 ti, .bool true, sv, fv] 30))
    obtain ⟨k0, k1, k2, k3, k4, k5, k6, kf0, kf1, kf2, kf3, kf4, kf5, kf6⟩ := HK.out.c7
    rw [show mainQ fr tz st ti true t = 0 from rfl, showR_zero]
    go_enter Tryz.func66, Tryz.ntmps66
    go_wp2_with fail
    go_ret
    exact ⟨rfl, HB.out⟩

set_option maxRecDepth 100000 in
set_option maxHeartbeats 4000000 in
theorem r30_scale (tz st ti : Int) (bl : Bool) (fr : Txt) (sv fv : Value) (su : List Sb) (fd : List Fdr) (ch t : Int) (w : World) (hsv : SbsAt w sv su) (hf : FdsAt w fv fd) (hx : fr.length ≤ 60) (hl : ∀ i, i < fd.length → (fdv fd i).fr.length ≤ 60) (hz : glE fr tz st ti = 0) (hs : TabOk su) (hd : FacOk fd) :
    Calls Tryz.prog 52 #[.agg #[.string ⟨(fr).toArray⟩, .int .i64 tz, .int .i64 st, .int .i64 ti, .bool (bl), sv, fv], .int .i64 ch, .int .i64 t] w fun e w' => e = .returned (.string ⟨(showR (facQ (mainQ fr tz st ti bl t) su fd ch t su.length)).toArray⟩) ∧ Below w.heap.size w w' := by
  have HF0 := Lib.hid hf
  have hmn := fun W => r30_main tz st ti bl fr sv fv t W hz hx
  have ha := mainQ_fits bl t hz hx
  obtain ⟨p, c, rfl, -, hv1⟩ := hsv
  have hv2 := Lib.hid hv1; clear hv1
  obtain ⟨pf, zf, rfl⟩ : ∃ pf zf, fv = .slice pf fd.length zf := by obtain ⟨a, b, e, -⟩ := hf; exact ⟨a, b, e⟩
  have hal := (Below.refl w.heap.size w).alloc (Nat.le_refl _) (.cells #[.string ⟨(fr).toArray⟩, .int .i64 tz, .int .i64 st, .int .i64 ti, .bool (bl), .slice p su.length c, (.slice pf fd.length zf)] 30)
  have HF := Lib.hid (FdsAt.kept hf hal)
  have HB := Lib.hid hal
  clear hal hf hz
  have HK := Lib.hid (Blk.new w 30 #[.string ⟨(fr).toArray⟩, .int .i64 tz, .int .i64 st, .int .i64 ti, .bool (bl), .slice p su.length c, (.slice pf fd.length zf)])
  obtain ⟨k0, k1, k2, k3, k4, k5, k6, kf0, kf1, kf2, kf3, kf4, kf5, kf6⟩ := HK.out.c7
  generalize hq0 : showR (mainQ fr tz st ti bl t) = tq at hmn
  have HQ0 := Lib.hid hq0; clear hq0
  have HMN := Lib.hid hmn; clear hmn
  go_enter Tryz.func52, Tryz.ntmps52
  go_wp2_with (first | (with_reducible refine ((HMN.out _).mono ?_); rintro e w' ⟨rfl, hb⟩; replace HK := Lib.hid (HK.out.keep hb); clear k0 k1 k2 k3 k4 k5 k6 kf0 kf1 kf2 kf3 kf4 kf5 kf6; replace HB := Lib.hid (bch' HB.out hb); clear hb; obtain ⟨k0, k1, k2, k3, k4, k5, k6, kf0, kf1, kf2, kf3, kf4, kf5, kf6⟩ := HK.out.c7))
  go_loopw [7, 8] (fun a0 i wr => ∃ k r : Nat, a0 = .string ⟨(showR (facQ (mainQ fr tz st ti bl t) su fd ch t k)).toArray⟩ ∧ i = .int .i64 (k : Int) ∧ Hid (k + r = su.length) ∧ Hid (Below w.heap.size w wr) ∧ Hid (Blk wr w.heap.size 30 #[.string ⟨(fr).toArray⟩, .int .i64 tz, .int .i64 st, .int .i64 ti, .bool (bl), .slice p su.length c, (.slice pf fd.length zf)])) (fun _ i _ => su.length - (intOf i).toNat)
  case atStart => exact ⟨0, su.length, by rw [← HQ0.out]; rfl, rfl, Lib.hid (by omega), HB, HK⟩
  case round =>
    obtain ⟨k, r, rfl, rfl, hkr, HB2, HK2⟩ := hrel
    clear HB HK HF
    clear k0 k1 k2 k3 k4 k5 k6 kf0 kf1 kf2 kf3 kf4 kf5 kf6
    have HB := HB2; have HK := HK2; clear HB2 HK2
    obtain ⟨k0, k1, k2, k3, k4, k5, k6, kf0, kf1, kf2, kf3, kf4, kf5, kf6⟩ := HK.out.c7
    have HF := Lib.hid (FdsAt.kept HF0.out HB.out)
    cases r with
    | zero =>
      have hlt : ¬ (k : Int) < (su.length : Int) := by have := hkr.out; omega
      obtain rfl : k = su.length := by have := hkr.out; omega
      go_wp2
      go_ret
      exact ⟨rfl, HB.out⟩
    | succ r =>
      have h16 := hs.few
      have hkl : k < su.length := by have := hkr.out; omega
      have hlt : (k : Int) < (su.length : Int) := by omega
      obtain ⟨b, o, rfl, hb, hC⟩ := hv2.out (fun h => by subst h; simp at hkl)
      obtain ⟨x1, x2, x3, gv, x4, hgn⟩ := hC.below HB.out hb k hkl
      clear hC
      have hbr : b < wr.heap.size := by have := HB.out.size; omega
      have hun : IntKind.i64.wrap ((k : Int) + 1) = (k : Int) + 1 := IntWalk.i64_in _ (by omega)
      have hsc := fun W (g : Below wr.heap.size wr W) => r26_scale (sbv su k).nu (sbv su k).pr ch t (sbv su k).inh (sbv su k).gs fd gv (.slice pf fd.length zf) W (hgn.kept g) (FdsAt.kept HF.out g) (subOk (hs.ok k hkl)) hd hl
      change ∀ W, _ → Calls _ _ _ W (fun e w' => e = .returned (.string ⟨(showR (sclQ (sbv su k) fd ch t)).toArray⟩) ∧ _) at hsc
      have f1 := facQ_fits ch t ha hs hd hl k (by omega)
      have f2 := sclQ_fits (s := sbv su k) (l := fd) (ch := ch) t (subOk (hs.ok k hkl)) hd hl
      have hti := fun W => r2_times _ _ W (f1.mono (by omega : _ ≤ 9000)) (f2.mono (by omega : _ ≤ 9000))
      rw [← facQ_succ (mainQ fr tz st ti bl t) fd ch t hkl] at hti
      clear f1 f2 hgn
      generalize hq1 : showR (facQ (mainQ fr tz st ti bl t) su fd ch t (k + 1)) = tk1 at hti
      have HQ1 := Lib.hid hq1; clear hq1
      generalize showR (facQ (mainQ fr tz st ti bl t) su fd ch t k) = tk at *
      generalize showR (sclQ (sbv su k) fd ch t) = ts at *
      have HSC := Lib.hid hsc; clear hsc
      have HTI := Lib.hid hti; clear hti
      go_wp2_with fail
      have f5 := fun p : BelowOf _ => (HK.out.keep p.h).c7.2.2.2.2.2.1
      have f6 := fun p : BelowOf _ => (HK.out.keep p.h).c7.2.2.2.2.2.2.1
      have r1 := fun p : BelowOf _ => (BelowOf.cell hbr x1 p)
      have r2 := fun p : BelowOf _ => (BelowOf.cell hbr x2 p)
      have r3 := fun p : BelowOf _ => (BelowOf.cell hbr x3 p)
      have r4 := fun p : BelowOf _ => (BelowOf.cell hbr x4 p)
      refine wp_region_WQ (by kernel_rfl) (by kernel_rfl) ?_
      repeat (refine WQ.step (fun K hK => ?_); go_simp; first | (refine hK.out _ ?_; clear hK K) | (apply Exists.intro; refine ⟨fun _ => ?_, hK.out _ ?_⟩; (first | rfl | (go_at_call 97; exact calls_below_of _ (HSC.out _ (BelowOf.h _))) | (go_at_call 96; exact calls_below_of _ (HTI.out _))); clear hK K))
      refine WQ.nil ?_
      intro _ hw'
      obtain ⟨⟨wq, hbq⟩, hw2⟩ := hw'
      subst hw2
      replace HK := Lib.hid (HK.out.keep hbq)
      replace HF := Lib.hid (FdsAt.kept HF.out hbq)
      replace HB := Lib.hid (bch' HB.out hbq)
      clear f5 f6 r1 r2 r3 r4
      go_wp2_with fail
      go_roundw
      case rel => exact ⟨k + 1, r, by rw [HQ1.out], by first | rfl | simp, Lib.hid (by have := hkr.out; omega), HB, HK⟩
      case measure => first | (simp [intOf]; done) | (simp [intOf]; omega)
end Go.Proofs.YtjagoloohhjjeaaGreatDoor
namespace Go.Proofs.YtjagoloohhjjeaaGreatDoor
open Go.RowKit Go.Shelf Lum
open Go.Lib (decDigits itoa)
attribute [local go_sem] bs_get bs_extract_end bs_extract_from bs_extract bs_append

set_option maxRecDepth 100000 in
set_option maxHeartbeats 4000000 in
theorem r30_factor_bad (tz st ti : Int) (bl : Bool) (fr : Txt) (sv fv : Value) (su : List Sb) (fd : List Fdr) (ch t : Int) (w : World) (hs : SbsAt w sv su) (hf : FdsAt w fv fd) (hx : fr.length ≤ 60) (hl : ∀ i, i < fd.length → (fdv fd i).fr.length ≤ 60) (hz : ¬ onE fr tz st ti su fd ch = 0) :
    Calls Tryz.prog 15 #[.agg #[.string ⟨(fr).toArray⟩, .int .i64 tz, .int .i64 st, .int .i64 ti, .bool (bl), sv, fv], .int .i64 ch, .int .i64 t] w fun e w' => e = .returned (.tuple #[.string ⟨([]).toArray⟩, .int .i64 (onE fr tz st ti su fd ch)]) ∧ Below w.heap.size w w' := by
  have hon := fun W (h1 : SbsAt W sv su) (h2 : FdsAt W fv fd) => r30_channeled tz st ti bl fr sv fv su fd ch W h1 h2 (by omega) (fun i hi => Nat.le_trans (hl i hi) (by omega))
  have hal := (Below.refl w.heap.size w).alloc (Nat.le_refl _) (.cells #[.string ⟨(fr).toArray⟩, .int .i64 tz, .int .i64 st, .int .i64 ti, .bool (bl), sv, fv] 30)
  have HS := Lib.hid (SbsAt.kept hs hal)
  have HF := Lib.hid (FdsAt.kept hf hal)
  have HB := Lib.hid hal
  clear hal hs hf
  have HK := Lib.hid (Blk.new w 30 #[.string ⟨(fr).toArray⟩, .int .i64 tz, .int .i64 st, .int .i64 ti, .bool (bl), sv, fv])
  obtain ⟨k0, k1, k2, k3, k4, k5, k6, kf0, kf1, kf2, kf3, kf4, kf5, kf6⟩ := HK.out.c7
  have hne : ((onE fr tz st ti su fd ch : Int) != 0) = true := by simpa using hz
  clear hz
  generalize onE fr tz st ti su fd ch = m at *
  have HON := Lib.hid hon; clear hon
  go_enter Tryz.func15, Tryz.ntmps15
  go_wp2_with (first | (with_reducible refine ((HON.out _ HS.out HF.out).mono ?_); rintro e w' ⟨rfl, hb⟩; replace HK := Lib.hid (HK.out.keep hb); clear k0 k1 k2 k3 k4 k5 k6 kf0 kf1 kf2 kf3 kf4 kf5 kf6; replace HS := Lib.hid (SbsAt.kept HS.out hb); replace HF := Lib.hid (FdsAt.kept HF.out hb); replace HB := Lib.hid (bch' HB.out hb); clear hb; obtain ⟨k0, k1, k2, k3, k4, k5, k6, kf0, kf1, kf2, kf3, kf4, kf5, kf6⟩ := HK.out.c7))
  go_ret2
  exact ⟨rfl, HB.out⟩

set_option maxRecDepth 100000 in
set_option maxHeartbeats 4000000 in
theorem r30_factor_ok (tz st ti : Int) (bl : Bool) (fr : Txt) (sv fv : Value) (su : List Sb) (fd : List Fdr) (ch t : Int) (w : World) (hs : SbsAt w sv su) (hf : FdsAt w fv fd) (hx : fr.length ≤ 60) (hl : ∀ i, i < fd.length → (fdv fd i).fr.length ≤ 60) (hz : onE fr tz st ti su fd ch = 0) :
    Calls Tryz.prog 15 #[.agg #[.string ⟨(fr).toArray⟩, .int .i64 tz, .int .i64 st, .int .i64 ti, .bool (bl), sv, fv], .int .i64 ch, .int .i64 t] w fun e w' => e = .returned (.tuple #[.string ⟨(showR (facQ (mainQ fr tz st ti bl t) su fd ch t su.length)).toArray⟩, .int .i64 0]) ∧ Below w.heap.size w w' := by
  obtain ⟨hm, hc0, hc1⟩ := onE_zero hz
  obtain ⟨m1, m2, m3⟩ := maE_zero hm
  have hon := fun W (h1 : SbsAt W sv su) (h2 : FdsAt W fv fd) => r30_channeled tz st ti bl fr sv fv su fd ch W h1 h2 (by omega) (fun i hi => Nat.le_trans (hl i hi) (by omega))
  rw [hz] at hon
  have hsc := fun W (h1 : SbsAt W sv su) (h2 : FdsAt W fv fd) => r30_scale tz st ti bl fr sv fv su fd ch t W h1 h2 hx hl m1 (tabOk m2) (facOk m3)
  have hal := (Below.refl w.heap.size w).alloc (Nat.le_refl _) (.cells #[.string ⟨(fr).toArray⟩, .int .i64 tz, .int .i64 st, .int .i64 ti, .bool (bl), sv, fv] 30)
  have HS := Lib.hid (SbsAt.kept hs hal)
  have HF := Lib.hid (FdsAt.kept hf hal)
  have HB := Lib.hid hal
  clear hal hs hf
  have HK := Lib.hid (Blk.new w 30 #[.string ⟨(fr).toArray⟩, .int .i64 tz, .int .i64 st, .int .i64 ti, .bool (bl), sv, fv])
  obtain ⟨k0, k1, k2, k3, k4, k5, k6, kf0, kf1, kf2, kf3, kf4, kf5, kf6⟩ := HK.out.c7
  clear hz hm hc0 hc1 m1 m2 m3
  generalize showR (facQ (mainQ fr tz st ti bl t) su fd ch t su.length) = tr at *
  have HON := Lib.hid hon; clear hon
  have HSC := Lib.hid hsc; clear hsc
  go_enter Tryz.func15, Tryz.ntmps15
  go_wp2_with (first | (with_reducible refine ((HON.out _ HS.out HF.out).mono ?_); rintro e w' ⟨rfl, hb⟩; replace HK := Lib.hid (HK.out.keep hb); clear k0 k1 k2 k3 k4 k5 k6 kf0 kf1 kf2 kf3 kf4 kf5 kf6; replace HS := Lib.hid (SbsAt.kept HS.out hb); replace HF := Lib.hid (FdsAt.kept HF.out hb); replace HB := Lib.hid (bch' HB.out hb); clear hb; obtain ⟨k0, k1, k2, k3, k4, k5, k6, kf0, kf1, kf2, kf3, kf4, kf5, kf6⟩ := HK.out.c7) | (with_reducible refine ((HSC.out _ HS.out HF.out).mono ?_); rintro e w' ⟨rfl, hb⟩; replace HK := Lib.hid (HK.out.keep hb); clear k0 k1 k2 k3 k4 k5 k6 kf0 kf1 kf2 kf3 kf4 kf5 kf6; replace HS := Lib.hid (SbsAt.kept HS.out hb); replace HF := Lib.hid (FdsAt.kept HF.out hb); replace HB := Lib.hid (bch' HB.out hb); clear hb; obtain ⟨k0, k1, k2, k3, k4, k5, k6, kf0, kf1, kf2, kf3, kf4, kf5, kf6⟩ := HK.out.c7))
  go_ret2
  exact ⟨rfl, HB.out⟩

set_option maxRecDepth 100000 in
set_option maxHeartbeats 8000000 in
theorem law_scales (fr : Txt) (tz st ti : Int) (bl : Bool) (sv fv : Value) (su : List Sb) (fd : List Fdr) (ch : Int) (t : Int) (w : World) (hl0 : fr.length ≤ 9223372036854775807) (hs : SbsAt w sv su) (hf : FdsAt w fv fd) (ch0 : -9223372036854775808 ≤ ch) (ch1 : ch ≤ 9223372036854775807) (t0 : -9223372036854775808 ≤ t) (t1 : t ≤ 9223372036854775807) (env : Env w) :
    Calls Tryz.prog 3 #[.agg #[.string ⟨(fr).toArray⟩, .int .i64 tz, .int .i64 st, .int .i64 ti, .bool (bl), sv, fv], .int .i64 ch, .int .i64 t] w fun e w' => e = .returned (.bool (true)) ∧ Below w.heap.size w w' := by
  obtain ⟨ps, zs, rfl⟩ : ∃ ps zs, sv = .slice ps su.length zs := by obtain ⟨a, b, e, -⟩ := hs; exact ⟨a, b, e⟩
  obtain ⟨pf, zf, rfl⟩ : ∃ pf zf, fv = .slice pf fd.length zf := by obtain ⟨a, b, e, -⟩ := hf; exact ⟨a, b, e⟩
  have ENV := Lib.hid env; clear env
  have hal := (Below.refl w.heap.size w).alloc (Nat.le_refl _) (.cells #[.string ⟨(fr).toArray⟩, .int .i64 tz, .int .i64 st, .int .i64 ti, .bool (bl), (.slice ps su.length zs), (.slice pf fd.length zf)] 28)
  have HS := Lib.hid (SbsAt.kept hs hal)
  have HF := Lib.hid (FdsAt.kept hf hal)
  have HB := Lib.hid hal
  clear hal hs hf
  have HK := Lib.hid (Blk.new w 28 #[.string ⟨(fr).toArray⟩, .int .i64 tz, .int .i64 st, .int .i64 ti, .bool (bl), (.slice ps su.length zs), (.slice pf fd.length zf)])
  obtain ⟨k0, k1, k2, k3, k4, k5, k6, kf0, kf1, kf2, kf3, kf4, kf5, kf6⟩ := HK.out.c7
  have haw := fun W (e : Env W) => l30_awake W e
  have how := fun W => l30_own tz st ti bl fr ps pf su.length zs fd.length zf W
  have hfe := fun W (h1 : SbsAt W (.slice ps su.length zs) su) (h2 : FdsAt W (.slice pf fd.length zf) fd) => r30_few tz st ti bl fr (.slice ps su.length zs) (.slice pf fd.length zf) su fd W h1 h2
  have HAW := Lib.hid haw; clear haw
  have HOW := Lib.hid how; clear how
  have HFE := Lib.hid hfe; clear hfe
  go_enter Tryz.func3, Tryz.ntmps3
  go_wp2_with (first | (with_reducible refine ((HOW.out _).mono ?_); rintro e w' ⟨rfl, hb⟩; replace HK := Lib.hid (HK.out.keep hb); clear k0 k1 k2 k3 k4 k5 k6 kf0 kf1 kf2 kf3 kf4 kf5 kf6; replace HS := Lib.hid (SbsAt.kept HS.out hb); replace HF := Lib.hid (FdsAt.kept HF.out hb); replace HB := Lib.hid (bch' HB.out hb); clear hb; obtain ⟨k0, k1, k2, k3, k4, k5, k6, kf0, kf1, kf2, kf3, kf4, kf5, kf6⟩ := HK.out.c7))
  refine ((HFE.out _ HS.out HF.out).mono ?_)
  rintro e w2 ⟨b1, rfl, hq, hb⟩
  replace HK := Lib.hid (HK.out.keep hb); clear k0 k1 k2 k3 k4 k5 k6 kf0 kf1 kf2 kf3 kf4 kf5 kf6; replace HS := Lib.hid (SbsAt.kept HS.out hb); replace HF := Lib.hid (FdsAt.kept HF.out hb); replace HB := Lib.hid (bch' HB.out hb); clear hb; obtain ⟨k0, k1, k2, k3, k4, k5, k6, kf0, kf1, kf2, kf3, kf4, kf5, kf6⟩ := HK.out.c7
  cases b1
  · go_wp2_with (first | (with_reducible refine ((HAW.out _ (ENV.out.below HB.out)).mono ?_); rintro e w' ⟨rfl, hb⟩; replace HK := Lib.hid (HK.out.keep hb); clear k0 k1 k2 k3 k4 k5 k6 kf0 kf1 kf2 kf3 kf4 kf5 kf6; replace HS := Lib.hid (SbsAt.kept HS.out hb); replace HF := Lib.hid (FdsAt.kept HF.out hb); replace HB := Lib.hid (bch' HB.out hb); clear hb; obtain ⟨k0, k1, k2, k3, k4, k5, k6, kf0, kf1, kf2, kf3, kf4, kf5, kf6⟩ := HK.out.c7))
    go_ret
    exact ⟨rfl, HB.out⟩
  · obtain ⟨hx, hl⟩ := hq rfl
    clear hq
    by_cases hz : onE fr tz st ti su fd ch = 0
    · have hof := fun W (h1 : SbsAt W (.slice ps su.length zs) su) (h2 : FdsAt W (.slice pf fd.length zf) fd) (e : Env W) => own_mfactor_ok tz st ti bl fr (.slice ps su.length zs) (.slice pf fd.length zf) su fd ch t W h1 h2 hx hl hz e
      have hrf := fun W (h1 : SbsAt W (.slice ps su.length zs) su) (h2 : FdsAt W (.slice pf fd.length zf) fd) => r30_factor_ok tz st ti bl fr (.slice ps su.length zs) (.slice pf fd.length zf) su fd ch t W h1 h2 hx hl hz
      clear hz
      generalize showR (facQ (mainQ fr tz st ti bl t) su fd ch t su.length) = tr at *
      have HOF := Lib.hid hof; clear hof
      have HRF := Lib.hid hrf; clear hrf
      go_wp2_with (first | (with_reducible refine ((HAW.out _ (ENV.out.below HB.out)).mono ?_); rintro e w' ⟨rfl, hb⟩; replace HK := Lib.hid (HK.out.keep hb); clear k0 k1 k2 k3 k4 k5 k6 kf0 kf1 kf2 kf3 kf4 kf5 kf6; replace HS := Lib.hid (SbsAt.kept HS.out hb); replace HF := Lib.hid (FdsAt.kept HF.out hb); replace HB := Lib.hid (bch' HB.out hb); clear hb; obtain ⟨k0, k1, k2, k3, k4, k5, k6, kf0, kf1, kf2, kf3, kf4, kf5, kf6⟩ := HK.out.c7) | (with_reducible refine ((HOW.out _).mono ?_); rintro e w' ⟨rfl, hb⟩; replace HK := Lib.hid (HK.out.keep hb); clear k0 k1 k2 k3 k4 k5 k6 kf0 kf1 kf2 kf3 kf4 kf5 kf6; replace HS := Lib.hid (SbsAt.kept HS.out hb); replace HF := Lib.hid (FdsAt.kept HF.out hb); replace HB := Lib.hid (bch' HB.out hb); clear hb; obtain ⟨k0, k1, k2, k3, k4, k5, k6, kf0, kf1, kf2, kf3, kf4, kf5, kf6⟩ := HK.out.c7) | (with_reducible refine ((HOF.out _ HS.out HF.out (ENV.out.below HB.out)).mono ?_); rintro e w' ⟨rfl, hb⟩; replace HK := Lib.hid (HK.out.keep hb); clear k0 k1 k2 k3 k4 k5 k6 kf0 kf1 kf2 kf3 kf4 kf5 kf6; replace HS := Lib.hid (SbsAt.kept HS.out hb); replace HF := Lib.hid (FdsAt.kept HF.out hb); replace HB := Lib.hid (bch' HB.out hb); clear hb; obtain ⟨k0, k1, k2, k3, k4, k5, k6, kf0, kf1, kf2, kf3, kf4, kf5, kf6⟩ := HK.out.c7) | (with_reducible refine ((HRF.out _ HS.out HF.out).mono ?_); rintro e w' ⟨rfl, hb⟩; replace HK := Lib.hid (HK.out.keep hb); clear k0 k1 k2 k3 k4 k5 k6 kf0 kf1 kf2 kf3 kf4 kf5 kf6; replace HS := Lib.hid (SbsAt.kept HS.out hb); replace HF := Lib.hid (FdsAt.kept HF.out hb); replace HB := Lib.hid (bch' HB.out hb); clear hb; obtain ⟨k0, k1, k2, k3, k4, k5, k6, kf0, kf1, kf2, kf3, kf4, kf5, kf6⟩ := HK.out.c7))
      go_ret
      exact ⟨rfl, HB.out⟩
    · have hof := fun W (h1 : SbsAt W (.slice ps su.length zs) su) (h2 : FdsAt W (.slice pf fd.length zf) fd) (e : Env W) => own_mfactor_bad tz st ti bl fr (.slice ps su.length zs) (.slice pf fd.length zf) su fd ch t W h1 h2 hx hl hz e
      have hrf := fun W (h1 : SbsAt W (.slice ps su.length zs) su) (h2 : FdsAt W (.slice pf fd.length zf) fd) => r30_factor_bad tz st ti bl fr (.slice ps su.length zs) (.slice pf fd.length zf) su fd ch t W h1 h2 hx hl hz
      clear hz
      generalize onE fr tz st ti su fd ch = m at *
      have HOF := Lib.hid hof; clear hof
      have HRF := Lib.hid hrf; clear hrf
      go_wp2_with (first | (with_reducible refine ((HAW.out _ (ENV.out.below HB.out)).mono ?_); rintro e w' ⟨rfl, hb⟩; replace HK := Lib.hid (HK.out.keep hb); clear k0 k1 k2 k3 k4 k5 k6 kf0 kf1 kf2 kf3 kf4 kf5 kf6; replace HS := Lib.hid (SbsAt.kept HS.out hb); replace HF := Lib.hid (FdsAt.kept HF.out hb); replace HB := Lib.hid (bch' HB.out hb); clear hb; obtain ⟨k0, k1, k2, k3, k4, k5, k6, kf0, kf1, kf2, kf3, kf4, kf5, kf6⟩ := HK.out.c7) | (with_reducible refine ((HOW.out _).mono ?_); rintro e w' ⟨rfl, hb⟩; replace HK := Lib.hid (HK.out.keep hb); clear k0 k1 k2 k3 k4 k5 k6 kf0 kf1 kf2 kf3 kf4 kf5 kf6; replace HS := Lib.hid (SbsAt.kept HS.out hb); replace HF := Lib.hid (FdsAt.kept HF.out hb); replace HB := Lib.hid (bch' HB.out hb); clear hb; obtain ⟨k0, k1, k2, k3, k4, k5, k6, kf0, kf1, kf2, kf3, kf4, kf5, kf6⟩ := HK.out.c7) | (with_reducible refine ((HOF.out _ HS.out HF.out (ENV.out.below HB.out)).mono ?_); rintro e w' ⟨rfl, hb⟩; replace HK := Lib.hid (HK.out.keep hb); clear k0 k1 k2 k3 k4 k5 k6 kf0 kf1 kf2 kf3 kf4 kf5 kf6; replace HS := Lib.hid (SbsAt.kept HS.out hb); replace HF := Lib.hid (FdsAt.kept HF.out hb); replace HB := Lib.hid (bch' HB.out hb); clear hb; obtain ⟨k0, k1, k2, k3, k4, k5, k6, kf0, kf1, kf2, kf3, kf4, kf5, kf6⟩ := HK.out.c7) | (with_reducible refine ((HRF.out _ HS.out HF.out).mono ?_); rintro e w' ⟨rfl, hb⟩; replace HK := Lib.hid (HK.out.keep hb); clear k0 k1 k2 k3 k4 k5 k6 kf0 kf1 kf2 kf3 kf4 kf5 kf6; replace HS := Lib.hid (SbsAt.kept HS.out hb); replace HF := Lib.hid (FdsAt.kept HF.out hb); replace HB := Lib.hid (bch' HB.out hb); clear hb; obtain ⟨k0, k1, k2, k3, k4, k5, k6, kf0, kf1, kf2, kf3, kf4, kf5, kf6⟩ := HK.out.c7))
      go_ret
      exact ⟨rfl, HB.out⟩
end Go.Proofs.YtjagoloohhjjeaaGreatDoor
