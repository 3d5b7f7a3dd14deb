/-
  The reference of layer 30: Few, Check, Main, Scale. The reference of layer 30: Factor; the law MasterScales.
-/
import Derived.Test.YtkjelfmgnkkijaaGreatDoorMw
import Derived.Test.YtkjelfmgnkkijaaGreatDoorR2
import Derived.Test.YtkjelfmgnkkijaaGreatDoorQq
import Derived.Test.YtkjelfmgnkkijaaGreatDoorHw
set_option linter.unusedVariables false
set_option linter.unusedSimpArgs false
namespace Lum
open Go Go.RowKit Go.Shelf
open Go.Lib (decDigits itoa)
/-- A call that says whether something is few; if it says so, p. -/
def FewB (p : Prop) (w : World) (e : Ending) (w' : World) : Prop := ∃ b, e = .returned (.bool b) ∧ (b = true → p) ∧ Below w.heap.size w w'
end Lum
namespace Go.Proofs.YtkjelfmgnkkijaaGreatDoor
open Go.RowKit Go.Shelf Lum
open Go.Lib (decDigits itoa)
attribute [local go_sem] bs_get bs_extract_end bs_extract_from bs_extract bs_append

set_option maxRecDepth 100000 in
set_option maxHeartbeats 4000000 in
theorem l30_own (tz st ti : Int) (bl : Bool) (fr : Txt) (ps pf : Option Addr) (n zs m zf : Nat) (w : World) : Calls Tryz.prog 17 #[.agg #[.string ⟨(fr).toArray⟩, .int .i64 tz, .int .i64 st, .int .i64 ti, .bool (bl), .slice ps n zs, .slice pf m zf]] w fun e w' => e = .returned (.agg #[.string ⟨(fr).toArray⟩, .int .i64 tz, .int .i64 st, .int .i64 ti, .bool (bl), .slice ps n zs, .slice pf m zf]) ∧ Below w.heap.size w w' := by
  go_enter Tryz.func17, Tryz.ntmps17
  go_wp2_with fail
  refine bodyPost_ret_by (v := .agg #[.string ⟨(fr).toArray⟩, .int .i64 tz, .int .i64 st, .int .i64 ti, .bool (bl), .slice ps n zs, .slice pf m zf]) (by simp [results, Tryz.f17, go_sem]) rfl ⟨rfl, ?_⟩
  exact ((Below.refl _ _).alloc (Nat.le_refl _) _).alloc (by simp) _

set_option maxRecDepth 100000 in
set_option maxHeartbeats 4000000 in
theorem r26_few (su : List Sb) (sv : Value) (w : World) (hv : SbsAt w sv su) :
    Calls Tryz.prog 29 #[sv] w fun e w' => FewB True w e w' := by
  obtain ⟨p, c, rfl, -, hv1⟩ := hv
  have hv2 := Lib.hid hv1; clear hv1
  have HB := Lib.hid (Below.refl w.heap.size w)
  go_enter Tryz.func29, Tryz.ntmps29
  go_wp2_with fail
  go_loopw [3] (fun i wr => ∃ k r : Nat, i = .int .i64 (k : Int) ∧ Hid (k + r = su.length) ∧ Hid (Below w.heap.size w wr)) (fun i _ => su.length - (intOf i).toNat)
  case atStart => exact ⟨0, su.length, rfl, Lib.hid (by omega), HB⟩
  case round =>
    obtain ⟨k, r, rfl, hkr, HB2⟩ := hrel
    clear HB
    have HB := HB2; clear HB2
    cases r with
    | zero =>
      have hlt : ¬ (k : Int) < (su.length : Int) := by have := hkr.out; omega
      go_wp2
      go_ret
      exact ⟨_, rfl, fun _ => trivial, HB.out⟩
    | succ r =>
      have hkl : k < su.length := by have := hkr.out; omega
      have hlt : (k : Int) < (su.length : Int) := by omega
      by_cases h40 : (k : Int) < 40
      · obtain ⟨b, o, rfl, hb, hC⟩ := hv2.out (fun h => by subst h; simp at hkl)
        obtain ⟨x1, x2, x3, gv, x4, hgn⟩ := hC.below HB.out hb k hkl
        obtain ⟨pg, cg, rfl, -⟩ := hgn
        clear hC
        have hbr : b < wr.heap.size := by have := HB.out.size; omega
        have hun : IntKind.i64.wrap ((k : Int) + 1) = (k : Int) + 1 := IntWalk.i64_in _ (by omega)
        by_cases h30 : (30 : Int) < ((sbv su k).gs.length : Int)
        · by_cases h128 : ((sbv su k).gs.length : Int) ≤ 128
          · go_wp2
            go_ret
            exact ⟨_, rfl, fun _ => trivial, HB.out⟩
          · go_wp2
            go_roundw
            case rel => exact ⟨k + 1, r, by first | rfl | simp, Lib.hid (by have := hkr.out; omega), HB⟩
            case measure => first | (simp [intOf]; done) | (simp [intOf]; omega)
        · go_wp2
          go_roundw
          case rel => exact ⟨k + 1, r, by first | rfl | simp, Lib.hid (by have := hkr.out; omega), HB⟩
          case measure => first | (simp [intOf]; done) | (simp [intOf]; omega)
      · go_wp2
        go_ret
        exact ⟨_, rfl, fun _ => trivial, HB.out⟩

set_option maxRecDepth 100000 in
set_option maxHeartbeats 4000000 in
theorem r26_fewfaders (fd : List Fdr) (fv : Value) (w : World) (hv : FdsAt w fv fd) :
    Calls Tryz.prog 30 #[fv] w fun e w' => FewB (∀ i, i < fd.length → (fdv fd i).fr.length ≤ 60) w e w' := by
  obtain ⟨p, c, rfl, -, hv1⟩ := hv
  have hv2 := Lib.hid hv1; clear hv1
  have HB := Lib.hid (Below.refl w.heap.size w)
  go_enter Tryz.func30, Tryz.ntmps30
  go_wp2_with fail
  go_loopw [3] (fun i wr => ∃ k r : Nat, i = .int .i64 (k : Int) ∧ Hid (k + r = fd.length) ∧ Hid (Below w.heap.size w wr) ∧ Hid (∀ j, j < k → (fdv fd j).fr.length ≤ 60)) (fun i _ => fd.length - (intOf i).toNat)
  case atStart => exact ⟨0, fd.length, rfl, Lib.hid (by omega), HB, Lib.hid (fun j h => absurd h (Nat.not_lt_zero j))⟩
  case round =>
    obtain ⟨k, r, rfl, hkr, HB2, HN⟩ := hrel
    clear HB
    have HB := HB2; clear HB2
    cases r with
    | zero =>
      have hlt : ¬ (k : Int) < (fd.length : Int) := by have := hkr.out; omega
      go_wp2
      go_ret
      exact ⟨_, rfl, fun _ i hi => HN.out i (by have := hkr.out; omega), HB.out⟩
    | succ r =>
      have hkl : k < fd.length := by have := hkr.out; omega
      have hlt : (k : Int) < (fd.length : Int) := by omega
      by_cases h40 : (k : Int) < 40
      · obtain ⟨b, o, rfl, hb, hC⟩ := hv2.out (fun h => by subst h; simp at hkl)
        replace hC : FdsC w b o fd := hC
        obtain ⟨x1, x2, x3, x4, x5, x6⟩ := hC.below HB.out hb k hkl
        clear hC
        have hbr : b < wr.heap.size := by have := HB.out.size; omega
        have hun : IntKind.i64.wrap ((k : Int) + 1) = (k : Int) + 1 := IntWalk.i64_in _ (by omega)
        by_cases h60 : (60 : Int) < ((fdv fd k).fr.length : Int)
        · go_wp2
          go_ret
          exact ⟨_, rfl, fun h => absurd h (by decide), HB.out⟩
        · have HN2 : Hid (∀ j, j < k + 1 → (fdv fd j).fr.length ≤ 60) := fun j hj => by
            by_cases g : j = k
            · subst g; omega
            · exact HN.out j (by omega)
          go_wp2
          go_roundw
          case rel => exact ⟨k + 1, r, by first | rfl | simp, Lib.hid (by have := hkr.out; omega), HB, HN2⟩
          case measure => first | (simp [intOf]; done) | (simp [intOf]; omega)
      · have h41 : ¬ (fd.length : Int) ≤ 40 := by omega
        go_wp2
        go_ret
        exact ⟨_, rfl, fun h => absurd h (by decide), HB.out⟩

set_option maxRecDepth 100000 in
set_option maxHeartbeats 4000000 in
theorem r30_few (tz st ti : Int) (bl : Bool) (fr : Txt) (sv fv : Value) (su : List Sb) (fd : List Fdr) (w : World) (hs : SbsAt w sv su) (hf : FdsAt w fv fd) :
    Calls Tryz.prog 16 #[.agg #[.string ⟨(fr).toArray⟩, .int .i64 tz, .int .i64 st, .int .i64 ti, .bool (bl), sv, fv]] w fun e w' => FewB (fr.length ≤ 60 ∧ ∀ i, i < fd.length → (fdv fd i).fr.length ≤ 60) w e w' := by
  have hal := (Below.refl w.heap.size w).alloc (Nat.le_refl _) (.cells #[.string ⟨(fr).toArray⟩, .int .i64 tz, .int .i64 st, .int .i64 ti, .bool (bl), sv, fv] 32)
  have HS := Lib.hid (SbsAt.kept hs hal)
  have HF := Lib.hid (FdsAt.kept hf hal)
  have HB := Lib.hid hal
  clear hal hs hf
  have HK := Lib.hid (Blk.new w 32 #[.string ⟨(fr).toArray⟩, .int .i64 tz, .int .i64 st, .int .i64 ti, .bool (bl), sv, fv])
  obtain ⟨k0, k1, k2, k3, k4, k5, k6, kf0, kf1, kf2, kf3, kf4, kf5, kf6⟩ := HK.out.c7
  have hfs := fun W (h : SbsAt W sv su) => r26_few su sv W h
  have hff := fun W (h : FdsAt W fv fd) => r26_fewfaders fd fv W h
  have HFS := Lib.hid hfs; clear hfs
  have HFF := Lib.hid hff; clear hff
  by_cases h60 : (fr.length : Int) ≤ 60
  · go_enter Tryz.func16, Tryz.ntmps16
    go_wp2_with fail
    refine ((HFS.out _ HS.out).mono ?_)
    rintro e w2 ⟨b1, rfl, -, hb⟩
    replace HK := Lib.hid (HK.out.keep hb); clear k0 k1 k2 k3 k4 k5 k6 kf0 kf1 kf2 kf3 kf4 kf5 kf6; replace HS := Lib.hid (SbsAt.kept HS.out hb); replace HF := Lib.hid (FdsAt.kept HF.out hb); replace HB := Lib.hid (bch' HB.out hb); clear hb; obtain ⟨k0, k1, k2, k3, k4, k5, k6, kf0, kf1, kf2, kf3, kf4, kf5, kf6⟩ := HK.out.c7
    cases b1
    · go_wp2_with fail
      go_ret
      exact ⟨_, rfl, fun h => absurd h (by decide), HB.out⟩
    · go_wp2_with fail
      refine ((HFF.out _ HF.out).mono ?_)
      rintro e w3 ⟨b2, rfl, hq, hb⟩
      have HQ := Lib.hid hq; clear hq
      replace HK := Lib.hid (HK.out.keep hb); clear k0 k1 k2 k3 k4 k5 k6 kf0 kf1 kf2 kf3 kf4 kf5 kf6; replace HS := Lib.hid (SbsAt.kept HS.out hb); replace HF := Lib.hid (FdsAt.kept HF.out hb); replace HB := Lib.hid (bch' HB.out hb); clear hb; obtain ⟨k0, k1, k2, k3, k4, k5, k6, kf0, kf1, kf2, kf3, kf4, kf5, kf6⟩ := HK.out.c7
      go_wp2_with fail
      go_ret
      exact ⟨b2, rfl, fun h => ⟨by omega, HQ.out h⟩, HB.out⟩
  · go_enter Tryz.func16, Tryz.ntmps16
    go_wp2_with fail
    go_ret
    exact ⟨_, rfl, fun h => absurd h (by decide), HB.out⟩

set_option maxRecDepth 100000 in
set_option maxHeartbeats 4000000 in
theorem r30_check (tz st ti : Int) (bl : Bool) (fr : Txt) (sv fv : Value) (su : List Sb) (fd : List Fdr) (w : World) (hs : SbsAt w sv su) (hf : FdsAt w fv fd) (hx : fr.length ≤ 1000) (hl : ∀ i, i < fd.length → (fdv fd i).fr.length ≤ 1000) :
    Calls Tryz.prog 73 #[.agg #[.string ⟨(fr).toArray⟩, .int .i64 tz, .int .i64 st, .int .i64 ti, .bool (bl), sv, fv]] w fun e w' => e = .returned (.int .i64 (maE fr tz st ti su fd)) ∧ Below w.heap.size w w' := by
  have hal := (Below.refl w.heap.size w).alloc (Nat.le_refl _) (.cells #[.string ⟨(fr).toArray⟩, .int .i64 tz, .int .i64 st, .int .i64 ti, .bool (bl), sv, fv] 32)
  have HS := Lib.hid (SbsAt.kept hs hal)
  have HF := Lib.hid (FdsAt.kept hf hal)
  have HB := Lib.hid hal
  clear hal hs hf
  have HK := Lib.hid (Blk.new w 32 #[.string ⟨(fr).toArray⟩, .int .i64 tz, .int .i64 st, .int .i64 ti, .bool (bl), sv, fv])
  obtain ⟨k0, k1, k2, k3, k4, k5, k6, kf0, kf1, kf2, kf3, kf4, kf5, kf6⟩ := HK.out.c7
  have hc := fun W => r3_check fr tz st ti W hx
  have ht := fun W (h : SbsAt W sv su) => r26_table su sv W h
  have hd := fun W (h : FdsAt W fv fd) => r26_faders fd fv W h hl
  by_cases hz : glE fr tz st ti = 0
  · rw [hz] at hc
    by_cases h2 : tabE su = 0
    · rw [maE_fac hz h2]
      rw [h2] at ht
      clear hz h2
      generalize facE fd = m at *
      have HC := Lib.hid hc; clear hc
      have HT := Lib.hid ht; clear ht
      have HD := Lib.hid hd; clear hd
      go_enter Tryz.func73, Tryz.ntmps73
      go_wp2_with (first | (with_reducible refine ((HC.out _).mono ?_); rintro e w' ⟨rfl, hb⟩; replace HK := Lib.hid (HK.out.keep hb); clear k0 k1 k2 k3 k4 k5 k6 kf0 kf1 kf2 kf3 kf4 kf5 kf6; replace HS := Lib.hid (SbsAt.kept HS.out hb); replace HF := Lib.hid (FdsAt.kept HF.out hb); replace HB := Lib.hid (bch' HB.out hb); clear hb; obtain ⟨k0, k1, k2, k3, k4, k5, k6, kf0, kf1, kf2, kf3, kf4, kf5, kf6⟩ := HK.out.c7) | (with_reducible refine ((HT.out _ HS.out).mono ?_); rintro e w' ⟨rfl, hb⟩; replace HK := Lib.hid (HK.out.keep hb); clear k0 k1 k2 k3 k4 k5 k6 kf0 kf1 kf2 kf3 kf4 kf5 kf6; replace HS := Lib.hid (SbsAt.kept HS.out hb); replace HF := Lib.hid (FdsAt.kept HF.out hb); replace HB := Lib.hid (bch' HB.out hb); clear hb; obtain ⟨k0, k1, k2, k3, k4, k5, k6, kf0, kf1, kf2, kf3, kf4, kf5, kf6⟩ := HK.out.c7) | (with_reducible refine ((HD.out _ HF.out).mono ?_); rintro e w' ⟨rfl, hb⟩; replace HK := Lib.hid (HK.out.keep hb); clear k0 k1 k2 k3 k4 k5 k6 kf0 kf1 kf2 kf3 kf4 kf5 kf6; replace HS := Lib.hid (SbsAt.kept HS.out hb); replace HF := Lib.hid (FdsAt.kept HF.out hb); replace HB := Lib.hid (bch' HB.out hb); clear hb; obtain ⟨k0, k1, k2, k3, k4, k5, k6, kf0, kf1, kf2, kf3, kf4, kf5, kf6⟩ := HK.out.c7))
      go_ret
      exact ⟨rfl, HB.out⟩
    · rw [maE_tab hz h2]
      have hne : ((tabE su : Int) != 0) = true := by simpa using h2
      clear hz h2
      generalize tabE su = m at *
      have HC := Lib.hid hc; clear hc
      have HT := Lib.hid ht; clear ht
      have HD := Lib.hid hd; clear hd
      go_enter Tryz.func73, Tryz.ntmps73
      go_wp2_with (first | (with_reducible refine ((HC.out _).mono ?_); rintro e w' ⟨rfl, hb⟩; replace HK := Lib.hid (HK.out.keep hb); clear k0 k1 k2 k3 k4 k5 k6 kf0 kf1 kf2 kf3 kf4 kf5 kf6; replace HS := Lib.hid (SbsAt.kept HS.out hb); replace HF := Lib.hid (FdsAt.kept HF.out hb); replace HB := Lib.hid (bch' HB.out hb); clear hb; obtain ⟨k0, k1, k2, k3, k4, k5, k6, kf0, kf1, kf2, kf3, kf4, kf5, kf6⟩ := HK.out.c7) | (with_reducible refine ((HT.out _ HS.out).mono ?_); rintro e w' ⟨rfl, hb⟩; replace HK := Lib.hid (HK.out.keep hb); clear k0 k1 k2 k3 k4 k5 k6 kf0 kf1 kf2 kf3 kf4 kf5 kf6; replace HS := Lib.hid (SbsAt.kept HS.out hb); replace HF := Lib.hid (FdsAt.kept HF.out hb); replace HB := Lib.hid (bch' HB.out hb); clear hb; obtain ⟨k0, k1, k2, k3, k4, k5, k6, kf0, kf1, kf2, kf3, kf4, kf5, kf6⟩ := HK.out.c7) | (with_reducible refine ((HD.out _ HF.out).mono ?_); rintro e w' ⟨rfl, hb⟩; replace HK := Lib.hid (HK.out.keep hb); clear k0 k1 k2 k3 k4 k5 k6 kf0 kf1 kf2 kf3 kf4 kf5 kf6; replace HS := Lib.hid (SbsAt.kept HS.out hb); replace HF := Lib.hid (FdsAt.kept HF.out hb); replace HB := Lib.hid (bch' HB.out hb); clear hb; obtain ⟨k0, k1, k2, k3, k4, k5, k6, kf0, kf1, kf2, kf3, kf4, kf5, kf6⟩ := HK.out.c7))
      go_ret
      exact ⟨rfl, HB.out⟩
  · rw [maE_gl hz]
    have hne : ((glE fr tz st ti : Int) != 0) = true := by simpa using hz
    clear hz
    generalize glE fr tz st ti = m at *
    have HC := Lib.hid hc; clear hc
    have HT := Lib.hid ht; clear ht
    have HD := Lib.hid hd; clear hd
    go_enter Tryz.func73, Tryz.ntmps73
    go_wp2_with (first | (with_reducible refine ((HC.out _).mono ?_); rintro e w' ⟨rfl, hb⟩; replace HK := Lib.hid (HK.out.keep hb); clear k0 k1 k2 k3 k4 k5 k6 kf0 kf1 kf2 kf3 kf4 kf5 kf6; replace HS := Lib.hid (SbsAt.kept HS.out hb); replace HF := Lib.hid (FdsAt.kept HF.out hb); replace HB := Lib.hid (bch' HB.out hb); clear hb; obtain ⟨k0, k1, k2, k3, k4, k5, k6, kf0, kf1, kf2, kf3, kf4, kf5, kf6⟩ := HK.out.c7) | (with_reducible refine ((HT.out _ HS.out).mono ?_); rintro e w' ⟨rfl, hb⟩; replace HK := Lib.hid (HK.out.keep hb); clear k0 k1 k2 k3 k4 k5 k6 kf0 kf1 kf2 kf3 kf4 kf5 kf6; replace HS := Lib.hid (SbsAt.kept HS.out hb); replace HF := Lib.hid (FdsAt.kept HF.out hb); replace HB := Lib.hid (bch' HB.out hb); clear hb; obtain ⟨k0, k1, k2, k3, k4, k5, k6, kf0, kf1, kf2, kf3, kf4, kf5, kf6⟩ := HK.out.c7) | (with_reducible refine ((HD.out _ HF.out).mono ?_); rintro e w' ⟨rfl, hb⟩; replace HK := Lib.hid (HK.out.keep hb); clear k0 k1 k2 k3 k4 k5 k6 kf0 kf1 kf2 kf3 kf4 kf5 kf6; replace HS := Lib.hid (SbsAt.kept HS.out hb); replace HF := Lib.hid (FdsAt.kept HF.out hb); replace HB := Lib.hid (bch' HB.out hb); clear hb; obtain ⟨k0, k1, k2, k3, k4, k5, k6, kf0, kf1, kf2, kf3, kf4, kf5, kf6⟩ := HK.out.c7))
    go_ret
    exact ⟨rfl, HB.out⟩

end Go.Proofs.YtkjelfmgnkkijaaGreatDoor
namespace Go.Proofs.YtkjelfmgnkkijaaGreatDoor
open Go.RowKit Go.Shelf Lum
open Go.Lib (decDigits itoa)
attribute [local go_sem] bs_get bs_extract_end bs_extract_from bs_extract bs_append

end Go.Proofs.YtkjelfmgnkkijaaGreatDoor
