/-
  The law SubmasterGrows.
-/
import Derived.Test.YtkjelfmgnkkijaaGreatDoorSi
import Derived.Deep.RegionHeld3
import Derived.Deep.DeepCutAuto
import Derived.Deep.Cut
import Derived.Outline
set_option linter.unusedVariables false
set_option linter.unusedSimpArgs false
namespace Go.Proofs.YtkjelfmgnkkijaaGreatDoor
open Go.RowKit Go.Shelf Lum
open Go.Lib (decDigits itoa)
attribute [local go_sem] bs_get bs_extract_end bs_extract_from bs_extract bs_append

set_option maxRecDepth 100000 in
set_option maxHeartbeats 16000000 in
theorem law_grows (nu pr z1 z2 : Int) (inh : Bool) (gs : List Gn) (gv : Value) (w : World) (hv : GnsAt w gv gs) (h10 : 0 ≤ z1) (h11 : z1 ≤ 65535) (h20 : 0 ≤ z2) (h21 : z2 ≤ 65535) (env : Env w) :
    Calls Tryz.prog 9 #[.agg #[.int .i64 nu, .int .i64 pr, .bool (inh), gv], .int .u16 z1, .int .u16 z2] w fun e w' => e = .returned (.bool (true)) ∧ Below w.heap.size w w' := by
  obtain ⟨pg, cg, rfl⟩ : ∃ pg cg, gv = .slice pg gs.length cg := by obtain ⟨pg, cg, e, -⟩ := hv; exact ⟨pg, cg, e⟩
  have ENV := Lib.hid env; clear env
  have HV0 := Lib.hid hv
  have HK := Lib.hid (Blk.new w 58 #[.int .i64 nu, .int .i64 pr, .bool (inh), (.slice pg gs.length cg)])
  have HB := Lib.hid ((Below.refl w.heap.size w).alloc (Nat.le_refl _) (.cells #[.int .i64 nu, .int .i64 pr, .bool (inh), (.slice pg gs.length cg)] 58))
  obtain ⟨k0, k1, k2, k3, kf0, kf1, kf2, kf3⟩ := HK.out.c4
  have hal := (Below.refl w.heap.size w).alloc (Nat.le_refl _) (.cells #[.int .i64 nu, .int .i64 pr, .bool (inh), (.slice pg gs.length cg)] 58)
  have HV := Lib.hid (GnsAt.kept hv hal)
  clear hal hv
  have haw := fun W (e : Env W) => l26_awake W e
  have hfe := fun su sv W (h : SbsAt W sv su) => r26_few su sv W h
  have HAW := Lib.hid haw; clear haw
  have HFE := Lib.hid hfe; clear hfe
  go_enter Tryz.func9, Tryz.ntmps9
  go_wp2_with fail
  have HN := Lib.hid (blkN1 w (.cells #[.int .i64 nu, .int .i64 pr, .bool (inh), (.slice pg gs.length cg)] 58) 58 #[.int .i64 nu, .int .i64 pr, .bool (inh), (.slice pg gs.length cg)])
  generalize w.alloc (.cells #[.int .i64 nu, .int .i64 pr, .bool (inh), (.slice pg gs.length cg)] 58) = w1 at *
  have hal := (Below.refl w1.heap.size w1).alloc (Nat.le_refl _) (.cells #[.int .i64 nu, .int .i64 pr, .bool (inh), (.slice pg gs.length cg)] 58)
  with_reducible refine ((HFE.out _ _ _ (sbs_one HN.out (GnsAt.kept HV.out hal))).mono ?_)
  rintro e w2 ⟨b1, rfl, -, hb⟩
  replace HK := Lib.hid ((HK.out.keep hal).keep hb)
  clear k0 k1 k2 k3 kf0 kf1 kf2 kf3
  replace HV := Lib.hid (GnsAt.kept (GnsAt.kept HV.out hal) hb)
  replace HB := Lib.hid (bch' (bch' HB.out hal) hb)
  clear hal hb HN
  obtain ⟨k0, k1, k2, k3, kf0, kf1, kf2, kf3⟩ := HK.out.c4
  cases b1
  · go_wp2_with (first | (with_reducible refine ((HAW.out _ (ENV.out.below HB.out)).mono ?_); rintro e w' ⟨rfl, hb⟩; replace HK := Lib.hid (HK.out.keep hb); clear k0 k1 k2 k3 kf0 kf1 kf2 kf3; replace HV := Lib.hid (GnsAt.kept HV.out hb); replace HB := Lib.hid (bch' HB.out hb); clear hb; obtain ⟨k0, k1, k2, k3, kf0, kf1, kf2, kf3⟩ := HK.out.c4))
    go_ret
    exact ⟨rfl, HB.out⟩
  · have hc := fun W (h : GnsAt W (.slice pg gs.length cg) gs) => r26_check nu pr inh gs (.slice pg gs.length cg) W h
    by_cases hs : subE nu pr inh gs = 0
    · rw [hs] at hc
      have HSU : Hid (sbE ⟨nu, pr, inh, gs⟩ = 0) := Lib.hid hs
      clear hs
      have HZ := Lib.hid (show (0 ≤ z1 ∧ z1 ≤ 65535) ∧ 0 ≤ z2 ∧ z2 ≤ 65535 from ⟨⟨h10, h11⟩, h20, h21⟩)
      have HCK := Lib.hid hc; clear hc
      go_upto_region 3 with (first | (with_reducible refine ((HCK.out _ HV.out).mono ?_); rintro e w' ⟨rfl, hb⟩; replace HK := Lib.hid (HK.out.keep hb); clear k0 k1 k2 k3 kf0 kf1 kf2 kf3; replace HV := Lib.hid (GnsAt.kept HV.out hb); replace HB := Lib.hid (bch' HB.out hb); clear hb; obtain ⟨k0, k1, k2, k3, kf0, kf1, kf2, kf3⟩ := HK.out.c4))
      obtain ⟨w3, rfl⟩ : ∃ w3 : World, w3 = w' := ⟨_, rfl⟩
      obtain ⟨SS, hSS⟩ : ∃ SS : World → Prop, ∀ W', SS W' ↔ (Below w.heap.size w W' ∧ Blk W' w.heap.size 58 #[.int .i64 nu, .int .i64 pr, .bool (inh), (.slice pg gs.length cg)]) := ⟨fun W' => Below w.heap.size w W' ∧ Blk W' w.heap.size 58 #[.int .i64 nu, .int .i64 pr, .bool (inh), (.slice pg gs.length cg)], fun _ => Iff.rfl⟩
      have HBO : Hid (∀ W', SS W' → (W'.cell? ⟨w.heap.size, 0, none⟩ = some (.int .i64 nu) ∧ SS W')) := Lib.hid fun W' hs => by obtain ⟨h1, h2⟩ := (hSS W').1 hs; exact ⟨h2.c4.1, hs⟩
      have HS1 : Hid (SS w3) := Lib.hid ((hSS _).2 ⟨HB.out, HK.out⟩)
      have HKE : Hid (∀ A B, SS A → Below A.heap.size A B → SS B) := Lib.hid fun A B hs hb => by obtain ⟨h1, h2⟩ := (hSS A).1 hs; exact (hSS B).2 ⟨bch' h1 hb, h2.keep hb⟩
      have HKD : Hid (∀ A, SS A → SS A.drew) := Lib.hid fun A h => HKE.out _ _ h ((Below.refl _ _).drew)
      have HFI : Hid (∀ A, SS A → (Below w.heap.size w A ∧ Blk A w.heap.size 58 #[.int .i64 nu, .int .i64 pr, .bool (inh), (.slice pg gs.length cg)])) := Lib.hid fun A hs => (hSS A).1 hs
      have HV3 := HV
      clear hSS HK HB HV
      clear k0 k1 k2 k3 kf0 kf1 kf2 kf3
      go_cut [7, 8] (fun s7 s8 wx => ∃ (wz : World) (sA sB : Value) (lo hi : Int), wz = wx ∧ sA = s7 ∧ sB = s8 ∧ Hid ((0 ≤ lo ∧ lo ≤ hi ∧ hi ≤ 65535)) ∧ Hid (FdsAt wx s7 [fdN nu lo]) ∧ Hid (FdsAt wx s8 [fdN nu hi]) ∧ Hid (SS wx))
      case first =>
        have tokA : True := trivial
        have HLH : Hid (0 ≤ min z1 z2 ∧ min z1 z2 ≤ max z1 z2 ∧ max z1 z2 ≤ 65535) := Lib.hid (by omega)
        have hwm : IntKind.i64.wrap (min z1 z2) = min z1 z2 := IntWalk.i64_in _ (by omega)
        have hwx : IntKind.i64.wrap (max z1 z2) = max z1 z2 := IntWalk.i64_in _ (by omega)
        go_region_held3 (fun W' => W'.cell? ⟨w.heap.size, 0, none⟩ = some (.int .i64 nu) ∧ SS W') (with_reducible refine HBO.out _ ?_; ((repeat (first | with_reducible refine HKE.out _ _ ?_ hbB | with_reducible refine HKE.out _ _ ?_ hbA | with_reducible refine HKD.out _ ?_)); with_reducible exact HS1.out)) (first | (go_at_call 45; (have _t := tokA; refine (l26_standing _ _ _).mono ?_; rintro e wA ⟨lvA, rfl, hlA, hbA⟩; clear tokA _t)) | (go_at_call 45; (refine (l26_standing _ _ _).mono ?_; rintro e wB ⟨lvB, rfl, hlB, hbB⟩)))
        all_goals (go_wp2_with fail; go_meet)
        all_goals first | exact ⟨_, _, _, (min z1 z2), (max z1 z2), rfl, rfl, rfl, HLH, Lib.hid (FdsAt.kept hlA hbB), Lib.hid hlB, Lib.hid (by ((repeat (first | with_reducible refine HKE.out _ _ ?_ hbB | with_reducible refine HKE.out _ _ ?_ hbA | with_reducible refine HKD.out _ ?_)); with_reducible exact HS1.out))⟩ | exact ⟨_, _, _, (min z1 z2), (max z1 z2), rfl, rfl, rfl, HLH, Lib.hid hlB, Lib.hid (FdsAt.kept hlA hbB), Lib.hid (by ((repeat (first | with_reducible refine HKE.out _ _ ?_ hbB | with_reducible refine HKE.out _ _ ?_ hbA | with_reducible refine HKD.out _ ?_)); with_reducible exact HS1.out))⟩
      case rest =>
        obtain ⟨wz, sA, sB, lo, hi, rfl, rfl, rfl, HLH, HA, HC, HSS⟩ := hcut
        obtain ⟨hB, hK⟩ := HFI.out _ HSS.out
        have HB := Lib.hid hB; have HK := Lib.hid hK; clear hB hK HSS HFI HKE HKD HS1 HBO
        have HV := Lib.hid (GnsAt.kept HV0.out HB.out)
        clear HV3
        have HFEW : Hid (gs.length ≤ 128) := Lib.hid (subOk HSU.out).few
        obtain ⟨k0, k1, k2, k3, kf0, kf1, kf2, kf3⟩ := HK.out.c4
        go_wp2_with fail
        obtain ⟨w5, rfl⟩ : ∃ w5 : World, w5 = wz := ⟨_, rfl⟩
        have HK5 := HK
        have HV5 := HV
        have HA5 := HA
        have HC5 := HC
        have HB0 := HB
        clear k0 k1 k2 k3 kf0 kf1 kf2 kf3
        clear HB HK HV HA HC
        have HB5 := Lib.hid (Below.refl w5.heap.size w5)
        go_loopw [48] (fun i wr => ∃ k r : Nat, i = .int .i64 (k : Int) ∧ Hid (k + r = gs.length) ∧ Hid (Below w5.heap.size w5 wr)) (fun i _ => gs.length - (intOf i).toNat)
        case atStart => exact ⟨0, gs.length, rfl, Lib.hid (by omega), HB5⟩
        case round =>
          obtain ⟨k, r, rfl, hkr, HB2⟩ := hrel
          clear HB5
          have HB5 := HB2; clear HB2
          have HB : Hid (Below w.heap.size w wr) := Lib.hid (bch' HB0.out HB5.out)
          have HK := Lib.hid (HK5.out.keep HB5.out)
          have HV := Lib.hid (GnsAt.kept HV5.out HB5.out)
          have HA := Lib.hid (FdsAt.kept HA5.out HB5.out)
          have HC := Lib.hid (FdsAt.kept HC5.out HB5.out)
          obtain ⟨k0, k1, k2, k3, kf0, kf1, kf2, kf3⟩ := HK.out.c4
          cases r with
          | zero =>
            have hlt : ¬ (k : Int) < ((gs.length : Nat) : Int) := by have := hkr.out; omega
            go_wp2_with (first | (with_reducible refine ((HAW.out _ (ENV.out.below HB.out)).mono ?_); rintro e w' ⟨rfl, hb⟩; replace HK := Lib.hid (HK.out.keep hb); clear k0 k1 k2 k3 kf0 kf1 kf2 kf3; replace HV := Lib.hid (GnsAt.kept HV.out hb); replace HA := Lib.hid (FdsAt.kept HA.out hb); replace HC := Lib.hid (FdsAt.kept HC.out hb); replace HB := Lib.hid (bch' HB.out hb); clear hb; obtain ⟨k0, k1, k2, k3, kf0, kf1, kf2, kf3⟩ := HK.out.c4))
            go_ret
            exact ⟨rfl, HB.out⟩
          | succ r =>
            have hkl : k < gs.length := by have := hkr.out; omega
            have hlt : (k : Int) < ((gs.length : Nat) : Int) := by omega
            have hun : IntKind.i64.wrap ((k : Int) + 1) = (k : Int) + 1 := IntWalk.i64_in _ (by have := HFEW.out; omega)
            obtain ⟨b, o, hpv, hb, hC⟩ : ∃ b o, pg = some ⟨b, o, none⟩ ∧ b < w.heap.size ∧ GnsC w b o gs := by
              obtain ⟨p, c, e, -, h2⟩ := HV0.out
              injection e with e1 e2 e3
              subst e1
              exact h2 (fun h => by subst h; exact absurd hkl (Nat.not_lt_zero _))
            subst hpv
            obtain ⟨x1, x2, x3⟩ := hC.below HB.out hb k hkl
            have hbr : b < wr.heap.size := by have := HB.out.size; omega
            clear hC hb
            have hal := (Below.refl wr.heap.size wr).alloc (Nat.le_refl _) (.cells #[.int .i64 ((gnv gs k).ch), .int .i64 ((gnv gs k).at_), .int .i64 ((gnv gs k).lev)] 85)
            replace HK := Lib.hid (HK.out.keep hal)
            replace HV := Lib.hid (GnsAt.kept HV.out hal)
            replace HA := Lib.hid (FdsAt.kept HA.out hal); replace HC := Lib.hid (FdsAt.kept HC.out hal)
            replace HB := Lib.hid (bch' HB.out hal)
            replace HB5 := Lib.hid (bch' HB5.out hal)
            clear hal
            have HG := Lib.hid (Blk.new wr 85 #[.int .i64 ((gnv gs k).ch), .int .i64 ((gnv gs k).at_), .int .i64 ((gnv gs k).lev)])
            go_upto_region 7 with fail
            clear k0 k1 k2 k3 kf0 kf1 kf2 kf3
            clear x1 x2 x3 hbr
            generalize wr.alloc (.cells #[.int .i64 ((gnv gs k).ch), .int .i64 ((gnv gs k).at_), .int .i64 ((gnv gs k).lev)] 85) = wg at *
            obtain ⟨k0, k1, k2, k3, kf0, kf1, kf2, kf3⟩ := HK.out.c4
            obtain ⟨g0, g1, g2, gf0, gf1, gf2⟩ := HG.out.c3
            have hok := subOk HSU.out
            obtain ⟨h0, h1, h2⟩ := HLH.out
            have fA := facOk_one (nu := nu) (v := lo) ⟨hok.nu0, hok.nu1⟩ ⟨h0, by omega⟩
            have fC := facOk_one (nu := nu) (v := hi) ⟨hok.nu0, hok.nu1⟩ ⟨by omega, h2⟩
            have lA := fdN_len (l := [fdN nu lo]) (.inr (.inl ⟨nu, lo, rfl⟩))
            have lC := fdN_len (l := [fdN nu hi]) (.inr (.inl ⟨nu, hi, rfl⟩))
            obtain ⟨tv, tw, ov, ow, ham, hbm, hcase⟩ := grows_am (pr := pr) (inh := inh) hok h0 h1 h2 hkl
            have hoa := fun W (h1 : GnsAt W (.slice (some ⟨b, o, none⟩) gs.length cg) gs) (h2 : FdsAt W sA [fdN nu lo]) (e : Env W) => own_samount_ok nu pr (gnv gs k).ch (gnv gs k).at_ 5 inh gs [fdN nu lo] (.slice (some ⟨b, o, none⟩) gs.length cg) sA W h1 h2 HSU.out (facE_ok fA) lA (hok.par k hkl) e
            have hob := fun W (h1 : GnsAt W (.slice (some ⟨b, o, none⟩) gs.length cg) gs) (h2 : FdsAt W sB [fdN nu hi]) (e : Env W) => own_samount_ok nu pr (gnv gs k).ch (gnv gs k).at_ 5 inh gs [fdN nu hi] (.slice (some ⟨b, o, none⟩) gs.length cg) sB W h1 h2 HSU.out (facE_ok fC) lC (hok.par k hkl) e
            rw [ham] at hoa
            rw [hbm] at hob
            dsimp only at hoa hob
            have hof := fun W (h1 : GnsAt W (.slice (some ⟨b, o, none⟩) gs.length cg) gs) (h2 : FdsAt W sA [fdN nu lo]) (e : Env W) => own_sfactor nu pr (gnv gs k).ch 5 inh gs [fdN nu lo] (.slice (some ⟨b, o, none⟩) gs.length cg) sA W h1 h2 HSU.out (facE_ok fA) lA (parE_ch (hok.par k hkl)) e
            have hog := fun W (h1 : GnsAt W (.slice (some ⟨b, o, none⟩) gs.length cg) gs) (h2 : FdsAt W sB [fdN nu hi]) (e : Env W) => own_sfactor nu pr (gnv gs k).ch 5 inh gs [fdN nu hi] (.slice (some ⟨b, o, none⟩) gs.length cg) sB W h1 h2 HSU.out (facE_ok fC) lC (parE_ch (hok.par k hkl)) e
            have ff := sclQ_fits (s := ⟨nu, pr, inh, gs⟩) (ch := (gnv gs k).ch) 5 hok fA lA
            have fg := sclQ_fits (s := ⟨nu, pr, inh, gs⟩) (ch := (gnv gs k).ch) 5 hok fC lC
            have hmono : (sclQ ⟨nu, pr, inh, gs⟩ [fdN nu lo] (gnv gs k).ch 5) ≤ (sclQ ⟨nu, pr, inh, gs⟩ [fdN nu hi] (gnv gs k).ch 5) := sclQ_mono hok (by show lvlQ nu inh _ 5 ≤ lvlQ nu inh _ 5; rw [lvlQ_one, lvlQ_one]; exact int_le h1)
            have hka := fun W => r2_check (showR (sclQ ⟨nu, pr, inh, gs⟩ [fdN nu lo] (gnv gs k).ch 5)) W (len_ok ff (by omega))
            rw [check_gen ff (by omega)] at hka
            have hkb := fun W => r2_check (showR (sclQ ⟨nu, pr, inh, gs⟩ [fdN nu hi] (gnv gs k).ch 5)) W (len_ok fg (by omega))
            rw [check_gen fg (by omega)] at hkb
            have hor := fun W => r2_order (sclQ ⟨nu, pr, inh, gs⟩ [fdN nu lo] (gnv gs k).ch 5) (sclQ ⟨nu, pr, inh, gs⟩ [fdN nu hi] (gnv gs k).ch 5) W (ff.mono (by omega)) (fg.mono (by omega))
            have hs1 : ¬ (0 : Int) < sgn (sclQ ⟨nu, pr, inh, gs⟩ [fdN nu lo] (gnv gs k).ch 5) (sclQ ⟨nu, pr, inh, gs⟩ [fdN nu hi] (gnv gs k).ch 5) := fun h => absurd ((sgn_gt _ _).1 h) (Rat.not_lt.2 hmono)
            generalize sgn (sclQ ⟨nu, pr, inh, gs⟩ [fdN nu lo] (gnv gs k).ch 5) (sclQ ⟨nu, pr, inh, gs⟩ [fdN nu hi] (gnv gs k).ch 5) = zs at *
            generalize showR (sclQ ⟨nu, pr, inh, gs⟩ [fdN nu lo] (gnv gs k).ch 5) = tc at *
            generalize showR (sclQ ⟨nu, pr, inh, gs⟩ [fdN nu hi] (gnv gs k).ch 5) = td at *
            clear ff fg hmono ham hbm h0 h1 h2 fA fC lA lC hok
            rcases hcase with hcase | hcase
            · obtain rfl := hcase
              have HOA := Lib.hid hoa; clear hoa
              have HOB := Lib.hid hob; clear hob
              have HOF := Lib.hid hof; clear hof
              have HOG := Lib.hid hog; clear hog
              have HKA := Lib.hid hka; clear hka
              have HKB := Lib.hid hkb; clear hkb
              have HOR := Lib.hid hor; clear hor
              go_wp2_with (first | (with_reducible refine ((HOA.out _ HV.out HA.out (ENV.out.below HB.out)).mono ?_); rintro e w' ⟨rfl, hb⟩; replace HK := Lib.hid (HK.out.keep hb); clear k0 k1 k2 k3 kf0 kf1 kf2 kf3; replace HG := Lib.hid (HG.out.keep hb); clear g0 g1 g2 gf0 gf1 gf2; replace HV := Lib.hid (GnsAt.kept HV.out hb); replace HA := Lib.hid (FdsAt.kept HA.out hb); replace HC := Lib.hid (FdsAt.kept HC.out hb); replace HB5 := Lib.hid (bch' HB5.out hb); replace HB := Lib.hid (bch' HB.out hb); clear hb; obtain ⟨k0, k1, k2, k3, kf0, kf1, kf2, kf3⟩ := HK.out.c4; obtain ⟨g0, g1, g2, gf0, gf1, gf2⟩ := HG.out.c3) | (with_reducible refine ((HOB.out _ HV.out HC.out (ENV.out.below HB.out)).mono ?_); rintro e w' ⟨rfl, hb⟩; replace HK := Lib.hid (HK.out.keep hb); clear k0 k1 k2 k3 kf0 kf1 kf2 kf3; replace HG := Lib.hid (HG.out.keep hb); clear g0 g1 g2 gf0 gf1 gf2; replace HV := Lib.hid (GnsAt.kept HV.out hb); replace HA := Lib.hid (FdsAt.kept HA.out hb); replace HC := Lib.hid (FdsAt.kept HC.out hb); replace HB5 := Lib.hid (bch' HB5.out hb); replace HB := Lib.hid (bch' HB.out hb); clear hb; obtain ⟨k0, k1, k2, k3, kf0, kf1, kf2, kf3⟩ := HK.out.c4; obtain ⟨g0, g1, g2, gf0, gf1, gf2⟩ := HG.out.c3) | (with_reducible refine ((HOF.out _ HV.out HA.out (ENV.out.below HB.out)).mono ?_); rintro e w' ⟨rfl, hb⟩; replace HK := Lib.hid (HK.out.keep hb); clear k0 k1 k2 k3 kf0 kf1 kf2 kf3; replace HG := Lib.hid (HG.out.keep hb); clear g0 g1 g2 gf0 gf1 gf2; replace HV := Lib.hid (GnsAt.kept HV.out hb); replace HA := Lib.hid (FdsAt.kept HA.out hb); replace HC := Lib.hid (FdsAt.kept HC.out hb); replace HB5 := Lib.hid (bch' HB5.out hb); replace HB := Lib.hid (bch' HB.out hb); clear hb; obtain ⟨k0, k1, k2, k3, kf0, kf1, kf2, kf3⟩ := HK.out.c4; obtain ⟨g0, g1, g2, gf0, gf1, gf2⟩ := HG.out.c3) | (with_reducible refine ((HOG.out _ HV.out HC.out (ENV.out.below HB.out)).mono ?_); rintro e w' ⟨rfl, hb⟩; replace HK := Lib.hid (HK.out.keep hb); clear k0 k1 k2 k3 kf0 kf1 kf2 kf3; replace HG := Lib.hid (HG.out.keep hb); clear g0 g1 g2 gf0 gf1 gf2; replace HV := Lib.hid (GnsAt.kept HV.out hb); replace HA := Lib.hid (FdsAt.kept HA.out hb); replace HC := Lib.hid (FdsAt.kept HC.out hb); replace HB5 := Lib.hid (bch' HB5.out hb); replace HB := Lib.hid (bch' HB.out hb); clear hb; obtain ⟨k0, k1, k2, k3, kf0, kf1, kf2, kf3⟩ := HK.out.c4; obtain ⟨g0, g1, g2, gf0, gf1, gf2⟩ := HG.out.c3) | (with_reducible refine ((HKA.out _).mono ?_); rintro e w' ⟨rfl, hb⟩; replace HK := Lib.hid (HK.out.keep hb); clear k0 k1 k2 k3 kf0 kf1 kf2 kf3; replace HG := Lib.hid (HG.out.keep hb); clear g0 g1 g2 gf0 gf1 gf2; replace HV := Lib.hid (GnsAt.kept HV.out hb); replace HA := Lib.hid (FdsAt.kept HA.out hb); replace HC := Lib.hid (FdsAt.kept HC.out hb); replace HB5 := Lib.hid (bch' HB5.out hb); replace HB := Lib.hid (bch' HB.out hb); clear hb; obtain ⟨k0, k1, k2, k3, kf0, kf1, kf2, kf3⟩ := HK.out.c4; obtain ⟨g0, g1, g2, gf0, gf1, gf2⟩ := HG.out.c3) | (with_reducible refine ((HKB.out _).mono ?_); rintro e w' ⟨rfl, hb⟩; replace HK := Lib.hid (HK.out.keep hb); clear k0 k1 k2 k3 kf0 kf1 kf2 kf3; replace HG := Lib.hid (HG.out.keep hb); clear g0 g1 g2 gf0 gf1 gf2; replace HV := Lib.hid (GnsAt.kept HV.out hb); replace HA := Lib.hid (FdsAt.kept HA.out hb); replace HC := Lib.hid (FdsAt.kept HC.out hb); replace HB5 := Lib.hid (bch' HB5.out hb); replace HB := Lib.hid (bch' HB.out hb); clear hb; obtain ⟨k0, k1, k2, k3, kf0, kf1, kf2, kf3⟩ := HK.out.c4; obtain ⟨g0, g1, g2, gf0, gf1, gf2⟩ := HG.out.c3) | (with_reducible refine ((HOR.out _).mono ?_); rintro e w' ⟨rfl, hb⟩; replace HK := Lib.hid (HK.out.keep hb); clear k0 k1 k2 k3 kf0 kf1 kf2 kf3; replace HG := Lib.hid (HG.out.keep hb); clear g0 g1 g2 gf0 gf1 gf2; replace HV := Lib.hid (GnsAt.kept HV.out hb); replace HA := Lib.hid (FdsAt.kept HA.out hb); replace HC := Lib.hid (FdsAt.kept HC.out hb); replace HB5 := Lib.hid (bch' HB5.out hb); replace HB := Lib.hid (bch' HB.out hb); clear hb; obtain ⟨k0, k1, k2, k3, kf0, kf1, kf2, kf3⟩ := HK.out.c4; obtain ⟨g0, g1, g2, gf0, gf1, gf2⟩ := HG.out.c3))
              go_roundw
              case rel => exact ⟨k + 1, r, by first | rfl | simp, Lib.hid (by have := hkr.out; omega), HB5⟩
              case measure => first | (simp [intOf]; done) | (simp [intOf]; omega)
            · obtain ⟨rfl, rfl, p, q, rfl, rfl, hpq, fp, fq⟩ := hcase
              have hkc := fun W => r2_check (showR p) W (len_ok fp (by omega))
              rw [check_gen fp (by omega)] at hkc
              have hkd := fun W => r2_check (showR q) W (len_ok fq (by omega))
              rw [check_gen fq (by omega)] at hkd
              have hos := fun W => r2_order p q W (fp.mono (by omega)) (fq.mono (by omega))
              have hs2 : ¬ (0 : Int) < sgn p q := fun h => absurd ((sgn_gt _ _).1 h) (Rat.not_lt.2 hpq)
              generalize sgn p q = zt at *
              generalize showR p = tv at *
              generalize showR q = tw at *
              clear hpq fp fq
              have HOA := Lib.hid hoa; clear hoa
              have HOB := Lib.hid hob; clear hob
              have HOF := Lib.hid hof; clear hof
              have HOG := Lib.hid hog; clear hog
              have HKA := Lib.hid hka; clear hka
              have HKB := Lib.hid hkb; clear hkb
              have HOR := Lib.hid hor; clear hor
              have HKC := Lib.hid hkc; clear hkc
              have HKD := Lib.hid hkd; clear hkd
              have HOS := Lib.hid hos; clear hos
              go_wp2_with (first | (with_reducible refine ((HOA.out _ HV.out HA.out (ENV.out.below HB.out)).mono ?_); rintro e w' ⟨rfl, hb⟩; replace HK := Lib.hid (HK.out.keep hb); clear k0 k1 k2 k3 kf0 kf1 kf2 kf3; replace HG := Lib.hid (HG.out.keep hb); clear g0 g1 g2 gf0 gf1 gf2; replace HV := Lib.hid (GnsAt.kept HV.out hb); replace HA := Lib.hid (FdsAt.kept HA.out hb); replace HC := Lib.hid (FdsAt.kept HC.out hb); replace HB5 := Lib.hid (bch' HB5.out hb); replace HB := Lib.hid (bch' HB.out hb); clear hb; obtain ⟨k0, k1, k2, k3, kf0, kf1, kf2, kf3⟩ := HK.out.c4; obtain ⟨g0, g1, g2, gf0, gf1, gf2⟩ := HG.out.c3) | (with_reducible refine ((HOB.out _ HV.out HC.out (ENV.out.below HB.out)).mono ?_); rintro e w' ⟨rfl, hb⟩; replace HK := Lib.hid (HK.out.keep hb); clear k0 k1 k2 k3 kf0 kf1 kf2 kf3; replace HG := Lib.hid (HG.out.keep hb); clear g0 g1 g2 gf0 gf1 gf2; replace HV := Lib.hid (GnsAt.kept HV.out hb); replace HA := Lib.hid (FdsAt.kept HA.out hb); replace HC := Lib.hid (FdsAt.kept HC.out hb); replace HB5 := Lib.hid (bch' HB5.out hb); replace HB := Lib.hid (bch' HB.out hb); clear hb; obtain ⟨k0, k1, k2, k3, kf0, kf1, kf2, kf3⟩ := HK.out.c4; obtain ⟨g0, g1, g2, gf0, gf1, gf2⟩ := HG.out.c3) | (with_reducible refine ((HOF.out _ HV.out HA.out (ENV.out.below HB.out)).mono ?_); rintro e w' ⟨rfl, hb⟩; replace HK := Lib.hid (HK.out.keep hb); clear k0 k1 k2 k3 kf0 kf1 kf2 kf3; replace HG := Lib.hid (HG.out.keep hb); clear g0 g1 g2 gf0 gf1 gf2; replace HV := Lib.hid (GnsAt.kept HV.out hb); replace HA := Lib.hid (FdsAt.kept HA.out hb); replace HC := Lib.hid (FdsAt.kept HC.out hb); replace HB5 := Lib.hid (bch' HB5.out hb); replace HB := Lib.hid (bch' HB.out hb); clear hb; obtain ⟨k0, k1, k2, k3, kf0, kf1, kf2, kf3⟩ := HK.out.c4; obtain ⟨g0, g1, g2, gf0, gf1, gf2⟩ := HG.out.c3) | (with_reducible refine ((HOG.out _ HV.out HC.out (ENV.out.below HB.out)).mono ?_); rintro e w' ⟨rfl, hb⟩; replace HK := Lib.hid (HK.out.keep hb); clear k0 k1 k2 k3 kf0 kf1 kf2 kf3; replace HG := Lib.hid (HG.out.keep hb); clear g0 g1 g2 gf0 gf1 gf2; replace HV := Lib.hid (GnsAt.kept HV.out hb); replace HA := Lib.hid (FdsAt.kept HA.out hb); replace HC := Lib.hid (FdsAt.kept HC.out hb); replace HB5 := Lib.hid (bch' HB5.out hb); replace HB := Lib.hid (bch' HB.out hb); clear hb; obtain ⟨k0, k1, k2, k3, kf0, kf1, kf2, kf3⟩ := HK.out.c4; obtain ⟨g0, g1, g2, gf0, gf1, gf2⟩ := HG.out.c3) | (with_reducible refine ((HKA.out _).mono ?_); rintro e w' ⟨rfl, hb⟩; replace HK := Lib.hid (HK.out.keep hb); clear k0 k1 k2 k3 kf0 kf1 kf2 kf3; replace HG := Lib.hid (HG.out.keep hb); clear g0 g1 g2 gf0 gf1 gf2; replace HV := Lib.hid (GnsAt.kept HV.out hb); replace HA := Lib.hid (FdsAt.kept HA.out hb); replace HC := Lib.hid (FdsAt.kept HC.out hb); replace HB5 := Lib.hid (bch' HB5.out hb); replace HB := Lib.hid (bch' HB.out hb); clear hb; obtain ⟨k0, k1, k2, k3, kf0, kf1, kf2, kf3⟩ := HK.out.c4; obtain ⟨g0, g1, g2, gf0, gf1, gf2⟩ := HG.out.c3) | (with_reducible refine ((HKB.out _).mono ?_); rintro e w' ⟨rfl, hb⟩; replace HK := Lib.hid (HK.out.keep hb); clear k0 k1 k2 k3 kf0 kf1 kf2 kf3; replace HG := Lib.hid (HG.out.keep hb); clear g0 g1 g2 gf0 gf1 gf2; replace HV := Lib.hid (GnsAt.kept HV.out hb); replace HA := Lib.hid (FdsAt.kept HA.out hb); replace HC := Lib.hid (FdsAt.kept HC.out hb); replace HB5 := Lib.hid (bch' HB5.out hb); replace HB := Lib.hid (bch' HB.out hb); clear hb; obtain ⟨k0, k1, k2, k3, kf0, kf1, kf2, kf3⟩ := HK.out.c4; obtain ⟨g0, g1, g2, gf0, gf1, gf2⟩ := HG.out.c3) | (with_reducible refine ((HOR.out _).mono ?_); rintro e w' ⟨rfl, hb⟩; replace HK := Lib.hid (HK.out.keep hb); clear k0 k1 k2 k3 kf0 kf1 kf2 kf3; replace HG := Lib.hid (HG.out.keep hb); clear g0 g1 g2 gf0 gf1 gf2; replace HV := Lib.hid (GnsAt.kept HV.out hb); replace HA := Lib.hid (FdsAt.kept HA.out hb); replace HC := Lib.hid (FdsAt.kept HC.out hb); replace HB5 := Lib.hid (bch' HB5.out hb); replace HB := Lib.hid (bch' HB.out hb); clear hb; obtain ⟨k0, k1, k2, k3, kf0, kf1, kf2, kf3⟩ := HK.out.c4; obtain ⟨g0, g1, g2, gf0, gf1, gf2⟩ := HG.out.c3) | (with_reducible refine ((HKC.out _).mono ?_); rintro e w' ⟨rfl, hb⟩; replace HK := Lib.hid (HK.out.keep hb); clear k0 k1 k2 k3 kf0 kf1 kf2 kf3; replace HG := Lib.hid (HG.out.keep hb); clear g0 g1 g2 gf0 gf1 gf2; replace HV := Lib.hid (GnsAt.kept HV.out hb); replace HA := Lib.hid (FdsAt.kept HA.out hb); replace HC := Lib.hid (FdsAt.kept HC.out hb); replace HB5 := Lib.hid (bch' HB5.out hb); replace HB := Lib.hid (bch' HB.out hb); clear hb; obtain ⟨k0, k1, k2, k3, kf0, kf1, kf2, kf3⟩ := HK.out.c4; obtain ⟨g0, g1, g2, gf0, gf1, gf2⟩ := HG.out.c3) | (with_reducible refine ((HKD.out _).mono ?_); rintro e w' ⟨rfl, hb⟩; replace HK := Lib.hid (HK.out.keep hb); clear k0 k1 k2 k3 kf0 kf1 kf2 kf3; replace HG := Lib.hid (HG.out.keep hb); clear g0 g1 g2 gf0 gf1 gf2; replace HV := Lib.hid (GnsAt.kept HV.out hb); replace HA := Lib.hid (FdsAt.kept HA.out hb); replace HC := Lib.hid (FdsAt.kept HC.out hb); replace HB5 := Lib.hid (bch' HB5.out hb); replace HB := Lib.hid (bch' HB.out hb); clear hb; obtain ⟨k0, k1, k2, k3, kf0, kf1, kf2, kf3⟩ := HK.out.c4; obtain ⟨g0, g1, g2, gf0, gf1, gf2⟩ := HG.out.c3) | (with_reducible refine ((HOS.out _).mono ?_); rintro e w' ⟨rfl, hb⟩; replace HK := Lib.hid (HK.out.keep hb); clear k0 k1 k2 k3 kf0 kf1 kf2 kf3; replace HG := Lib.hid (HG.out.keep hb); clear g0 g1 g2 gf0 gf1 gf2; replace HV := Lib.hid (GnsAt.kept HV.out hb); replace HA := Lib.hid (FdsAt.kept HA.out hb); replace HC := Lib.hid (FdsAt.kept HC.out hb); replace HB5 := Lib.hid (bch' HB5.out hb); replace HB := Lib.hid (bch' HB.out hb); clear hb; obtain ⟨k0, k1, k2, k3, kf0, kf1, kf2, kf3⟩ := HK.out.c4; obtain ⟨g0, g1, g2, gf0, gf1, gf2⟩ := HG.out.c3))
              go_roundw
              case rel => exact ⟨k + 1, r, by first | rfl | simp, Lib.hid (by have := hkr.out; omega), HB5⟩
              case measure => first | (simp [intOf]; done) | (simp [intOf]; omega)
    · have hne : ((subE nu pr inh gs : Int) != 0) = true := by simpa using hs
      clear hs
      generalize subE nu pr inh gs = m at *
      have HCK := Lib.hid hc; clear hc
      go_wp2_with (first | (with_reducible refine ((HCK.out _ HV.out).mono ?_); rintro e w' ⟨rfl, hb⟩; replace HK := Lib.hid (HK.out.keep hb); clear k0 k1 k2 k3 kf0 kf1 kf2 kf3; replace HV := Lib.hid (GnsAt.kept HV.out hb); replace HB := Lib.hid (bch' HB.out hb); clear hb; obtain ⟨k0, k1, k2, k3, kf0, kf1, kf2, kf3⟩ := HK.out.c4) | (with_reducible refine ((HAW.out _ (ENV.out.below HB.out)).mono ?_); rintro e w' ⟨rfl, hb⟩; replace HK := Lib.hid (HK.out.keep hb); clear k0 k1 k2 k3 kf0 kf1 kf2 kf3; replace HV := Lib.hid (GnsAt.kept HV.out hb); replace HB := Lib.hid (bch' HB.out hb); clear hb; obtain ⟨k0, k1, k2, k3, kf0, kf1, kf2, kf3⟩ := HK.out.c4))
      go_ret
      exact ⟨rfl, HB.out⟩
end Go.Proofs.YtkjelfmgnkkijaaGreatDoor
