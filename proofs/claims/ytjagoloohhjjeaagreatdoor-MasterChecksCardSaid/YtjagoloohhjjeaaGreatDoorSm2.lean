/-
  Submasters: Table, Faders of the program.
-/
import Derived.Test.YtjagoloohhjjeaaGreatDoorSm1
import Derived.Test.YtjagoloohhjjeaaGreatDoorGl1
set_option linter.unusedVariables false
set_option linter.unusedSimpArgs false
namespace Go.Proofs.YtjagoloohhjjeaaGreatDoor
open Go.RowKit Go.Shelf Lum
open Go.Lib (decDigits itoa)
attribute [local go_sem] bs_get bs_extract_end bs_extract_from bs_extract bs_append

set_option maxRecDepth 100000 in
set_option maxHeartbeats 8000000 in
theorem own_stable (l : List Sb) (v : Value) (w : World) (hv : SbsAt w v l) :
    Calls Tryz.prog 71 #[v] w fun e w' => e = .returned (.int .i64 (tabE l)) ∧ Below w.heap.size w w' := by
  obtain ⟨p, c, rfl, -, hv1⟩ := hv
  have hv2 := Lib.hid hv1; clear hv1
  have HB := Lib.hid (Below.refl w.heap.size w)
  by_cases o4 : 16 < l.length
  · have o5 : (16 : Int) < (l.length : Int) := by omega
    rw [tabE_many o4]
    go_enter Tryz.func71, Tryz.ntmps71
    go_wp2_with fail
    go_ret
    exact ⟨rfl, HB.out⟩
  · have o5 : ¬ (16 : Int) < (l.length : Int) := by omega
    have hE := tabE_few o4
    have HE := Lib.hid hE; clear hE
    go_enter Tryz.func71, Tryz.ntmps71
    go_wp2_with fail
    go_loopw [3, 12] (fun la i wr => ∃ k r : Nat, i = .int .i64 (k : Int) ∧ la = .int .i64 (lastS l k) ∧ Hid (k + r = l.length) ∧ Hid (Below w.heap.size w wr) ∧ Hid (tuE l r k = tuE l l.length 0)) (fun _ i _ => l.length - (intOf i).toNat)
    case atStart => exact ⟨0, l.length, rfl, rfl, Lib.hid (by omega), HB, Lib.hid rfl⟩
    case round =>
      obtain ⟨k, r, rfl, rfl, hkr, HB2, HS⟩ := hrel
      clear HB
      have HB := HB2; clear HB2
      cases r with
      | zero =>
        have hlt : ¬ (k : Int) < (l.length : Int) := by have := hkr.out; omega
        have he : tabE l = 0 := by rw [HE.out, ← HS.out]; rfl
        have HE2 := Lib.hid he; clear he
        go_wp2
        go_ret
        exact ⟨by rw [HE2.out]; rfl, HB.out⟩
      | succ r =>
        have hkl : k < l.length := by have := hkr.out; omega
        have hlt : (k : Int) < (l.length : Int) := by omega
        obtain ⟨b, o, rfl, hb, hC⟩ := hv2.out (fun h => by subst h; simp at hkl)
        have HC := Lib.hid (hC.below HB.out hb); clear hC
        obtain ⟨x1, x2, x3, gv, x4, hgn⟩ := HC.out k hkl
        obtain ⟨pg, cg, rfl⟩ : ∃ pg cg, gv = .slice pg (sbv l k).gs.length cg := by obtain ⟨pg, cg, e, -⟩ := hgn; exact ⟨pg, cg, e⟩
        have hbr : b < wr.heap.size := by have := HB.out.size; omega
        have hun : IntKind.i64.wrap ((k : Int) + 1) = (k : Int) + 1 := IntWalk.i64_in _ (by omega)
        have hal := (Below.refl wr.heap.size wr).alloc (Nat.le_refl _) (.cells #[.int .i64 (sbv l k).nu, .int .i64 (sbv l k).pr, .bool (sbv l k).inh, (.slice pg (sbv l k).gs.length cg)] 79)
        have HGN := Lib.hid (hgn.kept hal)
        clear hgn
        have hG := Blk.new wr 79 #[.int .i64 (sbv l k).nu, .int .i64 (sbv l k).pr, .bool (sbv l k).inh, (.slice pg (sbv l k).gs.length cg)]
        have HG := Lib.hid hG; clear hG
        replace HB := Lib.hid (bch' HB.out hal)
        clear hal
        obtain ⟨g0, g1, g2, g3, gf0, gf1, gf2, gf3⟩ := HG.out.c4
        have hck := fun W (h : GnsAt W (.slice pg (sbv l k).gs.length cg) (sbv l k).gs) => own_scheck (sbv l k).nu (sbv l k).pr (sbv l k).inh (sbv l k).gs (.slice pg (sbv l k).gs.length cg) W h
        change ∀ W (h : GnsAt W (.slice pg (sbv l k).gs.length cg) (sbv l k).gs), Calls _ _ _ W (fun e w' => e = .returned (.int .i64 (sbE (sbv l k))) ∧ _) at hck
        by_cases c1 : sbE (sbv l k) = 0
        · rw [c1] at hck
          by_cases c2 : (sbv l k).nu ≤ lastS l k
          · have he : tabE l = 9 := by rw [HE.out, ← HS.out, tuE_ord c1 c2]
            have HE2 := Lib.hid he; clear he HS HE
            have HCK := Lib.hid hck; clear hck
            go_wp2_with (first | (with_reducible refine ((HCK.out _ HGN.out).mono ?_); rintro e w' ⟨rfl, hb⟩; replace HG := Lib.hid (HG.out.keep hb); clear g0 g1 g2 g3 gf0 gf1 gf2 gf3; replace HB := Lib.hid (bch' HB.out hb); clear hb; obtain ⟨g0, g1, g2, g3, gf0, gf1, gf2, gf3⟩ := HG.out.c4))
            go_ret
            exact ⟨by rw [HE2.out]; rfl, HB.out⟩
          · have HF : Hid (tuE l r (k + 1) = tuE l l.length 0) := by show _ = _; rw [← HS.out, tuE_go c1 c2]
            clear HS HE c1
            have HCK := Lib.hid hck; clear hck
            go_wp2_with (first | (with_reducible refine ((HCK.out _ HGN.out).mono ?_); rintro e w' ⟨rfl, hb⟩; replace HG := Lib.hid (HG.out.keep hb); clear g0 g1 g2 g3 gf0 gf1 gf2 gf3; replace HB := Lib.hid (bch' HB.out hb); clear hb; obtain ⟨g0, g1, g2, g3, gf0, gf1, gf2, gf3⟩ := HG.out.c4))
            go_roundw
            case rel => exact ⟨k + 1, r, by first | rfl | simp, rfl, Lib.hid (by have := hkr.out; omega), HB, HF⟩
            case measure => first | (simp [intOf]; done) | (simp [intOf]; omega)
        · have he : tabE l = sbE (sbv l k) := by rw [HE.out, ← HS.out, tuE_bad c1]
          have HE2 := Lib.hid he; clear he HS HE
          have hne : ((sbE (sbv l k) : Int) != 0) = true := by simpa using c1
          generalize sbE (sbv l k) = m at *
          have HCK := Lib.hid hck; clear hck
          go_wp2_with (first | (with_reducible refine ((HCK.out _ HGN.out).mono ?_); rintro e w' ⟨rfl, hb⟩; replace HG := Lib.hid (HG.out.keep hb); clear g0 g1 g2 g3 gf0 gf1 gf2 gf3; replace HB := Lib.hid (bch' HB.out hb); clear hb; obtain ⟨g0, g1, g2, g3, gf0, gf1, gf2, gf3⟩ := HG.out.c4))
          go_ret
          exact ⟨by rw [HE2.out]; rfl, HB.out⟩

set_option maxRecDepth 100000 in
set_option maxHeartbeats 8000000 in
theorem own_sfaders (l : List Fdr) (v : Value) (w : World) (hv : FdsAt w v l) (hf : ∀ i, i < l.length → (fdv l i).fr.length ≤ 1000) (env : Env w) :
    Calls Tryz.prog 72 #[v] w fun e w' => e = .returned (.int .i64 (facE l)) ∧ Below w.heap.size w w' := by
  have ENV := Lib.hid env; clear env
  obtain ⟨p, c, rfl, -, hv1⟩ := hv
  have hv2 := Lib.hid hv1; clear hv1
  have hfr := Lib.hid hf; clear hf
  have HB := Lib.hid (Below.refl w.heap.size w)
  by_cases o4 : 16 < l.length
  · have o5 : (16 : Int) < (l.length : Int) := by omega
    rw [facE_many o4]
    go_enter Tryz.func72, Tryz.ntmps72
    go_wp2_with fail
    go_ret
    exact ⟨rfl, HB.out⟩
  · have o5 : ¬ (16 : Int) < (l.length : Int) := by omega
    have hE := facE_few o4
    have HE := Lib.hid hE; clear hE
    go_enter Tryz.func72, Tryz.ntmps72
    go_wp2_with fail
    go_loopw [3, 12] (fun la i wr => ∃ k r : Nat, i = .int .i64 (k : Int) ∧ la = .int .i64 (lastF l k) ∧ Hid (k + r = l.length) ∧ Hid (Below w.heap.size w wr) ∧ Hid (fuE l r k = fuE l l.length 0)) (fun _ i _ => l.length - (intOf i).toNat)
    case atStart => exact ⟨0, l.length, rfl, rfl, Lib.hid (by omega), HB, Lib.hid rfl⟩
    case round =>
      obtain ⟨k, r, rfl, rfl, hkr, HB2, HS⟩ := hrel
      clear HB
      have HB := HB2; clear HB2
      cases r with
      | zero =>
        have hlt : ¬ (k : Int) < (l.length : Int) := by have := hkr.out; omega
        have he : facE l = 0 := by rw [HE.out, ← HS.out]; rfl
        have HE2 := Lib.hid he; clear he
        go_wp2
        go_ret
        exact ⟨by rw [HE2.out]; rfl, HB.out⟩
      | succ r =>
        have hkl : k < l.length := by have := hkr.out; omega
        have hlt : (k : Int) < (l.length : Int) := by omega
        obtain ⟨b, o, rfl, hb, hC⟩ := hv2.out (fun h => by subst h; simp at hkl)
        replace hC : FdsC w b o l := hC
        obtain ⟨x1, x2, x3, x4, x5, x6⟩ := hC.below HB.out hb k hkl
        clear hC
        have hbr : b < wr.heap.size := by have := HB.out.size; omega
        have hun : IntKind.i64.wrap ((k : Int) + 1) = (k : Int) + 1 := IntWalk.i64_in _ (by omega)
        have hal := (Below.refl wr.heap.size wr).alloc (Nat.le_refl _) (.cells #[.int .i64 (fdv l k).su, .string ⟨(fdv l k).fr.toArray⟩, .int .i64 (fdv l k).tz, .int .i64 (fdv l k).st, .int .i64 (fdv l k).ti, .int .i64 (fdv l k).stp] 88)
        have hG := Blk.new wr 88 #[.int .i64 (fdv l k).su, .string ⟨(fdv l k).fr.toArray⟩, .int .i64 (fdv l k).tz, .int .i64 (fdv l k).st, .int .i64 (fdv l k).ti, .int .i64 (fdv l k).stp]
        have HG := Lib.hid hG; clear hG
        replace HB := Lib.hid (bch' HB.out hal)
        clear hal
        obtain ⟨g0, g1, g2, g3, g4, g5, gf0, gf1, gf2, gf3, gf4, gf5⟩ := HG.out.c6
        have hck := fun W (e : Env W) => own_gcheck (fdv l k).fr (fdv l k).tz (fdv l k).st (fdv l k).ti W (hfr.out k hkl) e
        change ∀ W (e : Env W), Calls _ _ _ W (fun e w' => e = .returned (.int .i64 (fgE (fdv l k))) ∧ _) at hck
        by_cases o0 : (fdv l k).su < 1
        · have he : facE l = 2 := by rw [HE.out, ← HS.out, fuE_su (by omega)]
          have HE2 := Lib.hid he; clear he HS HE
          have HCK := Lib.hid hck; clear hck
          go_wp2_with (first | (with_reducible refine ((HCK.out _ (ENV.out.below HB.out)).mono ?_); rintro e w' ⟨rfl, hb⟩; replace HG := Lib.hid (HG.out.keep hb); clear g0 g1 g2 g3 g4 g5 gf0 gf1 gf2 gf3 gf4 gf5; replace HB := Lib.hid (bch' HB.out hb); clear hb; obtain ⟨g0, g1, g2, g3, g4, g5, gf0, gf1, gf2, gf3, gf4, gf5⟩ := HG.out.c6))
          go_ret
          exact ⟨by rw [HE2.out]; rfl, HB.out⟩
        by_cases o1 : 1048576 < (fdv l k).su
        · have he : facE l = 2 := by rw [HE.out, ← HS.out, fuE_su (by omega)]
          have HE2 := Lib.hid he; clear he HS HE
          have HCK := Lib.hid hck; clear hck
          go_wp2_with (first | (with_reducible refine ((HCK.out _ (ENV.out.below HB.out)).mono ?_); rintro e w' ⟨rfl, hb⟩; replace HG := Lib.hid (HG.out.keep hb); clear g0 g1 g2 g3 g4 g5 gf0 gf1 gf2 gf3 gf4 gf5; replace HB := Lib.hid (bch' HB.out hb); clear hb; obtain ⟨g0, g1, g2, g3, g4, g5, gf0, gf1, gf2, gf3, gf4, gf5⟩ := HG.out.c6))
          go_ret
          exact ⟨by rw [HE2.out]; rfl, HB.out⟩
        have c0 : ¬ ((fdv l k).su < 1 ∨ 1048576 < (fdv l k).su) := by omega
        by_cases c1 : fgE (fdv l k) = 0
        · rw [c1] at hck
          by_cases o2 : (fdv l k).stp < 0
          · have he : facE l = 2 := by rw [HE.out, ← HS.out, fuE_stp c0 c1 (by omega)]
            have HE2 := Lib.hid he; clear he HS HE
            have HCK := Lib.hid hck; clear hck
            go_wp2_with (first | (with_reducible refine ((HCK.out _ (ENV.out.below HB.out)).mono ?_); rintro e w' ⟨rfl, hb⟩; replace HG := Lib.hid (HG.out.keep hb); clear g0 g1 g2 g3 g4 g5 gf0 gf1 gf2 gf3 gf4 gf5; replace HB := Lib.hid (bch' HB.out hb); clear hb; obtain ⟨g0, g1, g2, g3, g4, g5, gf0, gf1, gf2, gf3, gf4, gf5⟩ := HG.out.c6))
            go_ret
            exact ⟨by rw [HE2.out]; rfl, HB.out⟩
          by_cases o3 : 10000000 < (fdv l k).stp
          · have he : facE l = 2 := by rw [HE.out, ← HS.out, fuE_stp c0 c1 (by omega)]
            have HE2 := Lib.hid he; clear he HS HE
            have HCK := Lib.hid hck; clear hck
            go_wp2_with (first | (with_reducible refine ((HCK.out _ (ENV.out.below HB.out)).mono ?_); rintro e w' ⟨rfl, hb⟩; replace HG := Lib.hid (HG.out.keep hb); clear g0 g1 g2 g3 g4 g5 gf0 gf1 gf2 gf3 gf4 gf5; replace HB := Lib.hid (bch' HB.out hb); clear hb; obtain ⟨g0, g1, g2, g3, g4, g5, gf0, gf1, gf2, gf3, gf4, gf5⟩ := HG.out.c6))
            go_ret
            exact ⟨by rw [HE2.out]; rfl, HB.out⟩
          have c2 : ¬ ((fdv l k).stp < 0 ∨ 10000000 < (fdv l k).stp) := by omega
          by_cases c3 : (fdv l k).su ≤ lastF l k
          · have he : facE l = 9 := by rw [HE.out, ← HS.out, fuE_ord c0 c1 c2 c3]
            have HE2 := Lib.hid he; clear he HS HE
            have HCK := Lib.hid hck; clear hck
            go_wp2_with (first | (with_reducible refine ((HCK.out _ (ENV.out.below HB.out)).mono ?_); rintro e w' ⟨rfl, hb⟩; replace HG := Lib.hid (HG.out.keep hb); clear g0 g1 g2 g3 g4 g5 gf0 gf1 gf2 gf3 gf4 gf5; replace HB := Lib.hid (bch' HB.out hb); clear hb; obtain ⟨g0, g1, g2, g3, g4, g5, gf0, gf1, gf2, gf3, gf4, gf5⟩ := HG.out.c6))
            go_ret
            exact ⟨by rw [HE2.out]; rfl, HB.out⟩
          · have HF : Hid (fuE l r (k + 1) = fuE l l.length 0) := by show _ = _; rw [← HS.out, fuE_go c0 c1 c2 c3]
            clear HS HE c1 c0 c2
            have HCK := Lib.hid hck; clear hck
            go_wp2_with (first | (with_reducible refine ((HCK.out _ (ENV.out.below HB.out)).mono ?_); rintro e w' ⟨rfl, hb⟩; replace HG := Lib.hid (HG.out.keep hb); clear g0 g1 g2 g3 g4 g5 gf0 gf1 gf2 gf3 gf4 gf5; replace HB := Lib.hid (bch' HB.out hb); clear hb; obtain ⟨g0, g1, g2, g3, g4, g5, gf0, gf1, gf2, gf3, gf4, gf5⟩ := HG.out.c6))
            go_roundw
            case rel => exact ⟨k + 1, r, by first | rfl | simp, rfl, Lib.hid (by have := hkr.out; omega), HB, HF⟩
            case measure => first | (simp [intOf]; done) | (simp [intOf]; omega)
        · have he : facE l = fgE (fdv l k) := by rw [HE.out, ← HS.out, fuE_gl c0 c1]
          have HE2 := Lib.hid he; clear he HS HE c0
          have hne : ((fgE (fdv l k) : Int) != 0) = true := by simpa using c1
          generalize fgE (fdv l k) = m at *
          have HCK := Lib.hid hck; clear hck
          go_wp2_with (first | (with_reducible refine ((HCK.out _ (ENV.out.below HB.out)).mono ?_); rintro e w' ⟨rfl, hb⟩; replace HG := Lib.hid (HG.out.keep hb); clear g0 g1 g2 g3 g4 g5 gf0 gf1 gf2 gf3 gf4 gf5; replace HB := Lib.hid (bch' HB.out hb); clear hb; obtain ⟨g0, g1, g2, g3, g4, g5, gf0, gf1, gf2, gf3, gf4, gf5⟩ := HG.out.c6))
          go_ret
          exact ⟨by rw [HE2.out]; rfl, HB.out⟩
end Go.Proofs.YtjagoloohhjjeaaGreatDoor
