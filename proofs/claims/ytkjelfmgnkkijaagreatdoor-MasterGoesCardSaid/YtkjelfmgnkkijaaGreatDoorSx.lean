/-
  Submasters: the searches, the level, the gain and the share of the program. Submasters: newStrip and Factor of the program. Submasters: Factor of the program.
-/
import Derived.Test.YtkjelfmgnkkijaaGreatDoorBs
import Derived.Test.YtkjelfmgnkkijaaGreatDoorSm
import Derived.Test.YtkjelfmgnkkijaaGreatDoorGl
import Derived.Deep.LoopGhost
import Derived.Deep.RegionHeld3
import Derived.Deep.DeepCutAuto
import Derived.Deep.Cut
import Derived.Test.YtkjelfmgnkkijaaGreatDoorOo
set_option linter.unusedVariables false
set_option linter.unusedSimpArgs false
namespace Go.Proofs.YtkjelfmgnkkijaaGreatDoor
open Go.RowKit Go.Shelf Lum
open Go.Lib (decDigits itoa)
attribute [local go_sem] bs_get bs_extract_end bs_extract_from bs_extract bs_append

set_option maxRecDepth 100000 in
set_option maxHeartbeats 2000000 in
theorem cl_fader (su tz st ti stp n : Int) (fr : Txt) (w : World) (h0 : 1 ≤ su ∧ su ≤ 1048576) (h1 : 1 ≤ n ∧ n ≤ 1048576) :
    Calls Tryz.prog 147 #[.agg #[.int .i64 su, .string ⟨(fr).toArray⟩, .int .i64 tz, .int .i64 st, .int .i64 ti, .int .i64 stp], .int .i64 n] w fun e w' => e = .returned (.int .i64 (su - n)) ∧ Below w.heap.size w w' := by
  have e1 : IntKind.i64.wrap (su - n) = su - n := IntWalk.i64_in _ (by omega)
  clear h0 h1
  have HK := Lib.hid (Blk.new w 108 #[.int .i64 su, .string ⟨(fr).toArray⟩, .int .i64 tz, .int .i64 st, .int .i64 ti, .int .i64 stp])
  have HB := Lib.hid ((Below.refl w.heap.size w).alloc (Nat.le_refl _) (.cells #[.int .i64 su, .string ⟨(fr).toArray⟩, .int .i64 tz, .int .i64 st, .int .i64 ti, .int .i64 stp] 108))
  obtain ⟨k0, k1, k2, k3, k4, k5, kf0, kf1, kf2, kf3, kf4, kf5⟩ := HK.out.c6
  go_enter Tryz.func147, Tryz.ntmps147
  go_wp2_with fail
  go_ret
  exact ⟨rfl, HB.out⟩

set_option maxRecDepth 100000 in
set_option maxHeartbeats 2000000 in
theorem cl_gain (c a lv d b : Int) (w : World) (h0 : parE c a = 0) (h1 : parE d b = 0) :
    Calls Tryz.prog 154 #[.agg #[.int .i64 c, .int .i64 a, .int .i64 lv], .agg #[.int .i64 d, .int .i64 b]] w fun e w' => e = .returned (.int .i64 (cmpP c a d b)) ∧ Below w.heap.size w w' := by
  obtain ⟨u1, u2, u3⟩ := parE_zero h0
  obtain ⟨u4, u5, u6⟩ := parE_zero h1
  have hcm := fun W => own_scompare c a d b W (by omega) (by omega)
  clear h0 h1 u1 u2 u3 u4 u5 u6
  generalize cmpP c a d b = m at *
  have HCM := Lib.hid hcm; clear hcm
  have HB := Lib.hid (((Below.refl w.heap.size w).alloc (Nat.le_refl _) (.cells #[.int .i64 c, .int .i64 a, .int .i64 lv] 85)).alloc (by simp) (.cells #[.int .i64 d, .int .i64 b] 72))
  go_enter Tryz.func154, Tryz.ntmps154
  go_wp2_with (first | (with_reducible refine ((HCM.out _).mono ?_); rintro e w' ⟨rfl, hb⟩; replace HB := Lib.hid (bch' HB.out hb); clear hb))
  go_ret
  exact ⟨rfl, HB.out⟩

theorem own_gat (fr : Txt) (tz st ti t : Int) (w : World) (hg : glE fr tz st ti = 0) (hx : fr.length ≤ 1000) (env : Env w) :
    Calls Tryz.prog 138 #[.agg #[.string ⟨fr.toArray⟩, .int .i64 tz, .int .i64 st, .int .i64 ti], .int .i64 t] w fun e w' => e = .returned (.tuple #[.string ⟨(showR (glV (valR fr) tz st ti t)).toArray⟩, .int .i64 0]) ∧ Below w.heap.size w w' := by
  obtain ⟨q, rfl, e2, hq, h2, h3, h4⟩ := glq hg
  rw [e2]
  exact own_gat_ok q tz st ti t w hx hq.1 hq.2 h2 h3 h4 env

set_option maxRecDepth 100000 in
set_option maxHeartbeats 4000000 in
theorem own_slevel (nu pr : Int) (inh : Bool) (gv : Value) (su tz st ti stp at_ t : Int) (fr : Txt) (mv : Bool) (w : World) (hg : glE fr tz st ti = 0) (hx : fr.length ≤ 1000) (env : Env w) :
    Calls Tryz.prog 98 #[.agg #[.int .i64 nu, .int .i64 pr, .bool (inh), gv, .int .i64 su, .string ⟨(fr).toArray⟩, .int .i64 tz, .int .i64 st, .int .i64 ti, .int .i64 stp, .int .i64 at_, .bool (mv)], .int .i64 t] w fun e w' => e = .returned (.tuple #[.string ⟨(showR (glV (valR fr) tz st ti t)).toArray⟩, .int .i64 0]) ∧ Below w.heap.size w w' := by
  have ENV := Lib.hid env; clear env
  have HK := Lib.hid (Blk.new w 157 #[.int .i64 nu, .int .i64 pr, .bool (inh), gv, .int .i64 su, .string ⟨(fr).toArray⟩, .int .i64 tz, .int .i64 st, .int .i64 ti, .int .i64 stp, .int .i64 at_, .bool (mv)])
  have HB := Lib.hid ((Below.refl w.heap.size w).alloc (Nat.le_refl _) (.cells #[.int .i64 nu, .int .i64 pr, .bool (inh), gv, .int .i64 su, .string ⟨(fr).toArray⟩, .int .i64 tz, .int .i64 st, .int .i64 ti, .int .i64 stp, .int .i64 at_, .bool (mv)] 157))
  obtain ⟨k0, k1, k2, k3, k4, k5, k6, k7, k8, k9, k10, k11, kf0, kf1, kf2, kf3, kf4, kf5, kf6, kf7, kf8, kf9, kf10, kf11⟩ := HK.out.c12
  have ha := fun W (e : Env W) => own_gat fr tz st ti t W hg hx e
  clear hg hx
  generalize showR (glV (valR fr) tz st ti t) = tr at *
  have HA := Lib.hid ha; clear ha
  go_enter Tryz.func98, Tryz.ntmps98
  go_wp2_with (first | (with_reducible refine ((HA.out _ (ENV.out.below HB.out)).mono ?_); rintro e w' ⟨rfl, hb⟩; replace HK := Lib.hid (HK.out.keep hb); clear k0 k1 k2 k3 k4 k5 k6 k7 k8 k9 k10 k11 kf0 kf1 kf2 kf3 kf4 kf5 kf6 kf7 kf8 kf9 kf10 kf11; replace HB := Lib.hid (bch' HB.out hb); clear hb; obtain ⟨k0, k1, k2, k3, k4, k5, k6, k7, k8, k9, k10, k11, kf0, kf1, kf2, kf3, kf4, kf5, kf6, kf7, kf8, kf9, kf10, kf11⟩ := HK.out.c12))
  go_ret2
  exact ⟨rfl, HB.out⟩

set_option maxRecDepth 100000 in
set_option maxHeartbeats 4000000 in
theorem own_sgain (nu pr : Int) (inh : Bool) (gs : List Gn) (gv : Value) (su tz st ti stp at_ ch a : Int) (fr : Txt) (mv : Bool) (w : World) (hv : GnsAt w gv gs) (hn : gs.length ≤ 128) (hpa : ∀ j, j < gs.length → parE (gnv gs j).ch (gnv gs j).at_ = 0) (hbe : ∀ j, j < gs.length → ∀ i, i < j → befP (gnv gs i).ch (gnv gs i).at_ (gnv gs j).ch (gnv gs j).at_) (hp : parE ch a = 0) :
    Calls Tryz.prog 104 #[.agg #[.int .i64 nu, .int .i64 pr, .bool (inh), gv, .int .i64 su, .string ⟨(fr).toArray⟩, .int .i64 tz, .int .i64 st, .int .i64 ti, .int .i64 stp, .int .i64 at_, .bool (mv)], .agg #[.int .i64 ch, .int .i64 a]] w fun e w' => e = .returned (.tuple #[.int .i64 ((gnG gs ch a).getD 0), .bool ((gnG gs ch a).isSome)]) ∧ Below w.heap.size w w' := by
  have hbs := fun W (h : GnsAt W gv gs) => bs_gain 154 gs gv ch a (fun i => cmpP (gnv gs i).ch (gnv gs i).at_ ch a) W h (by omega) (enters_of Tryz.func154 (by kernel_rfl) rfl) (fun i hi W => cl_gain _ _ _ _ _ W (hpa i hi) hp)
  clear hpa hp hn
  have HV := Lib.hid hv
  obtain ⟨p, c, rfl, hc1, hv1⟩ := hv
  have hv2 := Lib.hid hv1; clear hv1
  have HBS := Lib.hid hbs; clear hbs
  have HBE := Lib.hid hbe; clear hbe
  have hal := ((Below.refl w.heap.size w).alloc (Nat.le_refl _) (.cells #[.int .i64 nu, .int .i64 pr, .bool (inh), .slice p gs.length c, .int .i64 su, .string ⟨(fr).toArray⟩, .int .i64 tz, .int .i64 st, .int .i64 ti, .int .i64 stp, .int .i64 at_, .bool (mv)] 157)).alloc (by simp) (.cells #[.int .i64 ch, .int .i64 a] 72)
  replace HV := Lib.hid (GnsAt.kept HV.out hal)
  have HB := Lib.hid hal; clear hal
  have hG := (Blk.new w 157 #[.int .i64 nu, .int .i64 pr, .bool (inh), .slice p gs.length c, .int .i64 su, .string ⟨(fr).toArray⟩, .int .i64 tz, .int .i64 st, .int .i64 ti, .int .i64 stp, .int .i64 at_, .bool (mv)]).alloc (.cells #[.int .i64 ch, .int .i64 a] 72)
  have HK := Lib.hid hG; clear hG
  obtain ⟨k0, k1, k2, k3, k4, k5, k6, k7, k8, k9, k10, k11, kf0, kf1, kf2, kf3, kf4, kf5, kf6, kf7, kf8, kf9, kf10, kf11⟩ := HK.out.c12
  go_enter Tryz.func104, Tryz.ntmps104
  go_wp2_with fail
  refine ((HBS.out _ HV.out).mono ?_)
  rintro e w2 ⟨i, hh, rfl, hb⟩
  replace HK := Lib.hid (HK.out.keep hb); clear k0 k1 k2 k3 k4 k5 k6 k7 k8 k9 k10 k11 kf0 kf1 kf2 kf3 kf4 kf5 kf6 kf7 kf8 kf9 kf10 kf11; replace HV := Lib.hid (GnsAt.kept HV.out hb); replace HB := Lib.hid (bch' HB.out hb); clear hb; obtain ⟨k0, k1, k2, k3, k4, k5, k6, k7, k8, k9, k10, k11, kf0, kf1, kf2, kf3, kf4, kf5, kf6, kf7, kf8, kf9, kf10, kf11⟩ := HK.out.c12
  have hgg := gns_hit HBE.out hh
  clear hh HBE HBS
  by_cases hcz : i < gs.length ∧ cmpP (gnv gs i).ch (gnv gs i).at_ ch a = 0
  · rw [if_pos hcz] at hgg
    have HR := Lib.hid hgg; clear hgg
    rw [decide_eq_true hcz]
    obtain ⟨hi, -⟩ := hcz
    have hi2 : (i : Int) < (gs.length : Int) := by omega
    obtain ⟨b, o, rfl, hb, hC⟩ := hv2.out (fun h => by subst h; simp at hi)
    replace hC : GnsC w b o gs := hC
    obtain ⟨x0, x1, x2⟩ := hC.below HB.out hb i hi
    clear hC
    have hbr : b < w2.heap.size := by have := HB.out.size; omega
    go_wp2_with fail
    go_ret2
    exact ⟨by rw [HR.out]; rfl, HB.out⟩
  · rw [if_neg hcz] at hgg
    have HR := Lib.hid hgg; clear hgg
    rw [decide_eq_false hcz]
    clear hcz
    go_wp2_with fail
    go_ret2
    exact ⟨by rw [HR.out]; rfl, HB.out⟩

set_option maxRecDepth 100000 in
set_option maxHeartbeats 4000000 in
theorem own_sshare (g : Int) (q : Rat) (w : World) (h0 : 0 ≤ g) (h1 : g ≤ 65535) (fq : Fits 2000 q) (env : Env w) :
    Calls Tryz.prog 110 #[.int .i64 g, .string ⟨(showR q).toArray⟩] w fun e w' => e = .returned (.tuple #[.string ⟨(showR (q * Rat.divInt g 65535)).toArray⟩, .int .i64 0]) ∧ Below w.heap.size w w' := by
  have ENV := Lib.hid env; clear env
  have HB := Lib.hid (Below.refl w.heap.size w)
  have hp := fun W (e : Env W) => own_part g 65535 W (by omega) (by omega) (by omega) (by omega) e
  rw [show partT g 65535 = (showR (Rat.divInt g 65535), 0) by unfold partT; rw [if_neg (by omega)]] at hp
  have fd := div65_fits h0 h1
  have hm := fun W (e : Env W) => own_rmul (showR q) (showR (Rat.divInt g 65535)) W e (len_ok fq (by omega)) (len_ok fd (by omega))
  rw [mul_gen fq fd (by omega)] at hm
  dsimp only at hp hm
  clear fq fd h0 h1
  generalize showR (q * Rat.divInt g 65535) = tr at *
  generalize showR (Rat.divInt g 65535) = tp at *
  generalize showR q = tq at *
  have HP := Lib.hid hp; clear hp
  have HM := Lib.hid hm; clear hm
  go_enter Tryz.func110, Tryz.ntmps110
  go_wp2_with (first | (with_reducible refine ((HP.out _ (ENV.out.below HB.out)).mono ?_); rintro e w' ⟨rfl, hb⟩; replace HB := Lib.hid (bch' HB.out hb); clear hb) | (with_reducible refine ((HM.out _ (ENV.out.below HB.out)).mono ?_); rintro e w' ⟨rfl, hb⟩; replace HB := Lib.hid (bch' HB.out hb); clear hb))
  go_ret2
  exact ⟨rfl, HB.out⟩
end Go.Proofs.YtkjelfmgnkkijaaGreatDoor
namespace Go.Proofs.YtkjelfmgnkkijaaGreatDoor
open Go.RowKit Go.Shelf Lum
open Go.Lib (decDigits itoa)
attribute [local go_sem] bs_get bs_extract_end bs_extract_from bs_extract bs_append

set_option maxRecDepth 100000 in
set_option maxHeartbeats 600000 in
theorem own_snew (nu pr : Int) (inh : Bool) (gs : List Gn) (l : List Fdr) (gv lv : Value) (w : World) (hv : GnsAt w gv gs) (hl : FdsAt w lv l) (hs : sbE ⟨nu, pr, inh, gs⟩ = 0) (hf : facE l = 0) (hlen : ∀ i, i < l.length → (fdv l i).fr.length ≤ 1000) (env : Env w) :
    Calls Tryz.prog 97 #[.agg #[.int .i64 nu, .int .i64 pr, .bool (inh), gv], lv] w fun e w' => ∃ i : Nat, Halved (fun k => (fdv l k).su - nu) l.length i ∧ e = .returned (.tuple #[.agg #[.int .i64 nu, .int .i64 pr, .bool (inh), gv, .int .i64 ((fadG nu inh l).su), .string ⟨((fadG nu inh l).fr).toArray⟩, .int .i64 ((fadG nu inh l).tz), .int .i64 ((fadG nu inh l).st), .int .i64 ((fadG nu inh l).ti), .int .i64 ((fadG nu inh l).stp), .int .i64 ((i : Int)), .bool (decide (i < l.length ∧ (fdv l i).su - nu = 0))], .int .i64 0]) ∧ Below w.heap.size w w' := by
  obtain ⟨pg, cg, rfl⟩ : ∃ pg cg, gv = .slice pg gs.length cg := by obtain ⟨pg, cg, e, -⟩ := hv; exact ⟨pg, cg, e⟩
  have ENV := Lib.hid env; clear env
  have hok : SubOk ⟨nu, pr, inh, gs⟩ := subOk hs
  have fok := facOk hf
  have hck := fun W (h : GnsAt W (.slice pg gs.length cg) gs) => own_scheck nu pr inh gs (.slice pg gs.length cg) W h
  rw [show subE nu pr inh gs = 0 from hs] at hck
  have hfa := fun W (h : FdsAt W lv l) (e : Env W) => own_sfaders l lv W h (fun i hi => Nat.le_trans (hlen i hi) (by omega)) e
  rw [hf] at hfa
  have hze := fun W (e : Env W) => own_gzero W e
  have hfu := fun W (e : Env W) => own_gfull W e
  have hbs := fun W (h : FdsAt W lv l) => bs_fader 147 l lv (.int .i64 nu) (fun i => (fdv l i).su - nu) W h (by have := fok.few; omega) (enters_of Tryz.func147 (by kernel_rfl) rfl) (fun i hi W => cl_fader _ _ _ _ _ _ _ W (fok.su i hi) ⟨hok.nu0, hok.nu1⟩)
  have HCK := Lib.hid hck; clear hck
  have HFA := Lib.hid hfa; clear hfa
  have HZE := Lib.hid hze; clear hze
  have HFU := Lib.hid hfu; clear hfu
  have HBS := Lib.hid hbs; clear hbs
  have hal := ((Below.refl w.heap.size w).alloc (Nat.le_refl _) (.cells #[.int .i64 nu, .int .i64 pr, .bool (inh), (.slice pg gs.length cg)] 58)).alloc (by simp) (.cells #[.int .i64 0, .int .i64 0, .bool false, .slice none 0 0, .int .i64 0, .string ⟨#[]⟩, .int .i64 0, .int .i64 0, .int .i64 0, .int .i64 0, .int .i64 0, .bool false] 157)
  have HB := Lib.hid hal
  have HL0 := Lib.hid hl
  have HV := Lib.hid (GnsAt.kept hv hal)
  have HL := Lib.hid (FdsAt.kept hl hal)
  clear hal
  have hG := (Blk.new w 58 #[.int .i64 nu, .int .i64 pr, .bool (inh), (.slice pg gs.length cg)]).alloc (.cells #[.int .i64 0, .int .i64 0, .bool false, .slice none 0 0, .int .i64 0, .string ⟨#[]⟩, .int .i64 0, .int .i64 0, .int .i64 0, .int .i64 0, .int .i64 0, .bool false] 157)
  have HK := Lib.hid hG; clear hG
  obtain ⟨k0, k1, k2, k3, kf0, kf1, kf2, kf3⟩ := HK.out.c4
  have hR := Blk.new (w.alloc (.cells #[.int .i64 nu, .int .i64 pr, .bool (inh), (.slice pg gs.length cg)] 58)) 157 #[.int .i64 0, .int .i64 0, .bool false, .slice none 0 0, .int .i64 0, .string ⟨#[]⟩, .int .i64 0, .int .i64 0, .int .i64 0, .int .i64 0, .int .i64 0, .bool false]
  rw [World.size_alloc] at hR
  have HR := Lib.hid hR; clear hR
  have FOK := Lib.hid fok
  obtain ⟨p, c, rfl, -, hl1⟩ := hl
  have hl2 := Lib.hid hl1
  clear hl1 hs hf hlen hok fok hv
  go_enter Tryz.func97, Tryz.ntmps97
  go_upto_region 7 with (first | (with_reducible refine ((HCK.out _ HV.out).mono ?_); rintro e w' ⟨rfl, hb⟩; replace HR := Lib.hid (HR.out.keep hb); replace HK := Lib.hid (HK.out.keep hb); clear k0 k1 k2 k3 kf0 kf1 kf2 kf3; replace HV := Lib.hid (GnsAt.kept HV.out hb); replace HL := Lib.hid (FdsAt.kept HL.out hb); replace HB := Lib.hid (bch' HB.out hb); clear hb; obtain ⟨k0, k1, k2, k3, kf0, kf1, kf2, kf3⟩ := HK.out.c4) | (with_reducible refine ((HFA.out _ HL.out (ENV.out.below HB.out)).mono ?_); rintro e w' ⟨rfl, hb⟩; replace HR := Lib.hid (HR.out.keep hb); replace HK := Lib.hid (HK.out.keep hb); clear k0 k1 k2 k3 kf0 kf1 kf2 kf3; replace HV := Lib.hid (GnsAt.kept HV.out hb); replace HL := Lib.hid (FdsAt.kept HL.out hb); replace HB := Lib.hid (bch' HB.out hb); clear hb; obtain ⟨k0, k1, k2, k3, kf0, kf1, kf2, kf3⟩ := HK.out.c4))
  go_cut [8] (fun s8 wx => ∃ X : Nat, s8 = .pointer (some ⟨X, 0, none⟩) ∧ w.heap.size + 2 ≤ X ∧ Hid (Below w.heap.size w wx) ∧ Hid (Blk wx w.heap.size 58 #[.int .i64 nu, .int .i64 pr, .bool (inh), (.slice pg gs.length cg)]) ∧ Hid (Blk wx (w.heap.size + 1) 157 #[.int .i64 0, .int .i64 0, .bool false, .slice none 0 0, .int .i64 0, .string ⟨#[]⟩, .int .i64 0, .int .i64 0, .int .i64 0, .int .i64 0, .int .i64 0, .bool false]) ∧ Hid (FdsAt wx (.slice p l.length c) l) ∧ Hid (Blk wx X 157 #[.int .i64 nu, .int .i64 pr, .bool (inh), (.slice pg gs.length cg), .int .i64 nu, .string ⟨#[48]⟩, .int .i64 0, .int .i64 0, .int .i64 0, .int .i64 0, .int .i64 0, .bool false]))
  case first =>
    have hS : ∀ W', Below w.heap.size w W' → Blk W' w.heap.size 58 #[.int .i64 nu, .int .i64 pr, .bool (inh), (.slice pg gs.length cg)] → Blk W' (w.heap.size + 1) 157 #[.int .i64 0, .int .i64 0, .bool false, .slice none 0 0, .int .i64 0, .string ⟨#[]⟩, .int .i64 0, .int .i64 0, .int .i64 0, .int .i64 0, .int .i64 0, .bool false] → Below w.heap.size w W' ∧ Blk W' w.heap.size 58 #[.int .i64 nu, .int .i64 pr, .bool (inh), (.slice pg gs.length cg)] ∧ Blk W' (w.heap.size + 1) 157 #[.int .i64 0, .int .i64 0, .bool false, .slice none 0 0, .int .i64 0, .string ⟨#[]⟩, .int .i64 0, .int .i64 0, .int .i64 0, .int .i64 0, .int .i64 0, .bool false] ∧ W'.cell? ⟨w.heap.size, 0, none⟩ = some (.int .i64 nu) ∧ W'.cell? ⟨w.heap.size, 1, none⟩ = some (.int .i64 pr) ∧ W'.cell? ⟨w.heap.size, 2, none⟩ = some (.bool inh) ∧ W'.cell? ⟨w.heap.size, 3, none⟩ = some (.slice pg gs.length cg) := fun W' h1 h2 h3 => ⟨h1, h2, h3, h2.c4.1, h2.c4.2.1, h2.c4.2.2.1, h2.c4.2.2.2.1⟩
    have HS0 := Lib.hid (hS (World.drew w') HB.out.drew (HK.out.drew) (HR.out.drew))
    have HKE : Hid (∀ A B, (Below w.heap.size w A ∧ Blk A w.heap.size 58 #[.int .i64 nu, .int .i64 pr, .bool (inh), (.slice pg gs.length cg)] ∧ Blk A (w.heap.size + 1) 157 #[.int .i64 0, .int .i64 0, .bool false, .slice none 0 0, .int .i64 0, .string ⟨#[]⟩, .int .i64 0, .int .i64 0, .int .i64 0, .int .i64 0, .int .i64 0, .bool false] ∧ A.cell? ⟨w.heap.size, 0, none⟩ = some (.int .i64 nu) ∧ A.cell? ⟨w.heap.size, 1, none⟩ = some (.int .i64 pr) ∧ A.cell? ⟨w.heap.size, 2, none⟩ = some (.bool inh) ∧ A.cell? ⟨w.heap.size, 3, none⟩ = some (.slice pg gs.length cg)) → Below A.heap.size A B → (Below w.heap.size w B ∧ Blk B w.heap.size 58 #[.int .i64 nu, .int .i64 pr, .bool (inh), (.slice pg gs.length cg)] ∧ Blk B (w.heap.size + 1) 157 #[.int .i64 0, .int .i64 0, .bool false, .slice none 0 0, .int .i64 0, .string ⟨#[]⟩, .int .i64 0, .int .i64 0, .int .i64 0, .int .i64 0, .int .i64 0, .bool false] ∧ B.cell? ⟨w.heap.size, 0, none⟩ = some (.int .i64 nu) ∧ B.cell? ⟨w.heap.size, 1, none⟩ = some (.int .i64 pr) ∧ B.cell? ⟨w.heap.size, 2, none⟩ = some (.bool inh) ∧ B.cell? ⟨w.heap.size, 3, none⟩ = some (.slice pg gs.length cg))) := Lib.hid fun A B h hb => hS B (bch' h.1 hb) (h.2.1.keep hb) (h.2.2.1.keep hb)
    have HSE : Hid (∀ (A : World) (X j : Nat) (v : Value), (Below w.heap.size w A ∧ Blk A w.heap.size 58 #[.int .i64 nu, .int .i64 pr, .bool (inh), (.slice pg gs.length cg)] ∧ Blk A (w.heap.size + 1) 157 #[.int .i64 0, .int .i64 0, .bool false, .slice none 0 0, .int .i64 0, .string ⟨#[]⟩, .int .i64 0, .int .i64 0, .int .i64 0, .int .i64 0, .int .i64 0, .bool false] ∧ A.cell? ⟨w.heap.size, 0, none⟩ = some (.int .i64 nu) ∧ A.cell? ⟨w.heap.size, 1, none⟩ = some (.int .i64 pr) ∧ A.cell? ⟨w.heap.size, 2, none⟩ = some (.bool inh) ∧ A.cell? ⟨w.heap.size, 3, none⟩ = some (.slice pg gs.length cg)) → w.heap.size + 2 ≤ X → (Below w.heap.size w (A.setCell ⟨X, j, none⟩ v) ∧ Blk (A.setCell ⟨X, j, none⟩ v) w.heap.size 58 #[.int .i64 nu, .int .i64 pr, .bool (inh), (.slice pg gs.length cg)] ∧ Blk (A.setCell ⟨X, j, none⟩ v) (w.heap.size + 1) 157 #[.int .i64 0, .int .i64 0, .bool false, .slice none 0 0, .int .i64 0, .string ⟨#[]⟩, .int .i64 0, .int .i64 0, .int .i64 0, .int .i64 0, .int .i64 0, .bool false] ∧ (A.setCell ⟨X, j, none⟩ v).cell? ⟨w.heap.size, 0, none⟩ = some (.int .i64 nu) ∧ (A.setCell ⟨X, j, none⟩ v).cell? ⟨w.heap.size, 1, none⟩ = some (.int .i64 pr) ∧ (A.setCell ⟨X, j, none⟩ v).cell? ⟨w.heap.size, 2, none⟩ = some (.bool inh) ∧ (A.setCell ⟨X, j, none⟩ v).cell? ⟨w.heap.size, 3, none⟩ = some (.slice pg gs.length cg))) := Lib.hid fun A X j v h hx => hS _ (h.1.setCell (by show _ ≤ X; omega) _) (h.2.1.far (by show _ ≠ X; omega) _) (h.2.2.1.far (by show _ ≠ X; omega) _)
    clear hS
    have hsz : w.heap.size + 2 ≤ w'.heap.size := by have := HR.out.lt; omega
    go_region_held3 (fun W' => Below w.heap.size w W' ∧ Blk W' w.heap.size 58 #[.int .i64 nu, .int .i64 pr, .bool (inh), (.slice pg gs.length cg)] ∧ Blk W' (w.heap.size + 1) 157 #[.int .i64 0, .int .i64 0, .bool false, .slice none 0 0, .int .i64 0, .string ⟨#[]⟩, .int .i64 0, .int .i64 0, .int .i64 0, .int .i64 0, .int .i64 0, .bool false] ∧ W'.cell? ⟨w.heap.size, 0, none⟩ = some (.int .i64 nu) ∧ W'.cell? ⟨w.heap.size, 1, none⟩ = some (.int .i64 pr) ∧ W'.cell? ⟨w.heap.size, 2, none⟩ = some (.bool inh) ∧ W'.cell? ⟨w.heap.size, 3, none⟩ = some (.slice pg gs.length cg)) (first | with_reducible assumption | with_reducible exact HS0.out | (with_reducible refine HSE.out _ _ _ _ ?_ hsz; (repeat (with_reducible refine HSE.out _ _ _ _ ?_ hsz)); with_reducible assumption) | with_reducible exact HKE.out _ _ (by assumption) (by assumption) | with_reducible exact HKE.out _ _ (by assumption) ((Below.refl _ _).alloc (Nat.le_refl _) _) | with_reducible exact HKE.out _ _ HS0.out ((Below.refl _ _).alloc (Nat.le_refl _) _) | with_reducible exact HKE.out _ _ (HKE.out _ _ HS0.out hbw) ((Below.refl _ _).alloc (Nat.le_refl _) _)) (first | (go_at_call 145; refine (HZE.out _ (ENV.out.below (by first | assumption | exact And.left (by assumption)))).mono ?_; rintro e w9 ⟨rfl, hbw⟩; try (have hX : Blk w9 w'.heap.size 157 #[.int .i64 0, .int .i64 0, .bool false, .slice none 0 0, .int .i64 0, .string ⟨#[]⟩, .int .i64 0, .int .i64 0, .int .i64 0, .int .i64 0, .int .i64 0, .bool false] := (Blk.new (World.drew w') _ _).keep hbw; obtain ⟨y0, y1, y2, y3, y4, y5, y6, y7, y8, y9, y10, y11, yf0, yf1, yf2, yf3, yf4, yf5, yf6, yf7, yf8, yf9, yf10, yf11⟩ := hX.c12)))
    all_goals (go_wp2_with fail; go_meet; refine ⟨_, rfl, (by first | exact hsz | exact Nat.le_trans hsz hbw.size), Lib.hid ?_, Lib.hid ?_, Lib.hid ?_, Lib.hid ?_, Lib.hid ?_⟩)
    all_goals first | (with_reducible exact And.left (by assumption)) | (with_reducible exact And.left (And.right (by assumption))) | (with_reducible exact And.left (And.right (And.right (by assumption)))) | (with_reducible exact FdsAt.kept HL0.out (And.left (by assumption))) | with_reducible exact Blk.new _ _ _ | with_reducible exact hX.all12 _ _ _ _ _ _ _ _ _ _ _ _
  case rest =>
    obtain ⟨X, rfl, hX, HB2, HK2, HR2, HL2, HX⟩ := hcut
    clear k0 k1 k2 k3 kf0 kf1 kf2 kf3
    clear HB HK HR HL HV HZE
    have HB := HB2; have HK := HK2; have HR := HR2; clear HB2 HK2 HR2 HL2
    have hX0 : w.heap.size ≤ X := by omega
    have hX1 : w.heap.size + 1 ≠ X := by omega
    have hX2 : w.heap.size ≠ X := by omega
    obtain ⟨k0, k1, k2, k3, kf0, kf1, kf2, kf3⟩ := HK.out.c4
    go_upto_if 28 with fail
    go_cut [] (fun wx => Hid (Below w.heap.size w wx) ∧ Hid (Blk wx w.heap.size 58 #[.int .i64 nu, .int .i64 pr, .bool (inh), (.slice pg gs.length cg)]) ∧ Hid (Blk wx (w.heap.size + 1) 157 #[.int .i64 0, .int .i64 0, .bool false, .slice none 0 0, .int .i64 0, .string ⟨#[]⟩, .int .i64 0, .int .i64 0, .int .i64 0, .int .i64 0, .int .i64 0, .bool false]) ∧ Hid (Blk wx X 157 #[.int .i64 nu, .int .i64 pr, .bool (inh), (.slice pg gs.length cg), .int .i64 ((fadD nu inh).su), .string ⟨((fadD nu inh).fr).toArray⟩, .int .i64 ((fadD nu inh).tz), .int .i64 ((fadD nu inh).st), .int .i64 ((fadD nu inh).ti), .int .i64 ((fadD nu inh).stp), .int .i64 0, .bool false]))
    case first =>
      cases inh
      · go_wp2_with fail
        go_meet
        exact ⟨HB, HK, HR, HX⟩
      · obtain ⟨x0, x1, x2, x3, x4, x5, x6, x7, x8, x9, x10, x11, xf0, xf1, xf2, xf3, xf4, xf5, xf6, xf7, xf8, xf9, xf10, xf11⟩ := HX.out.c12
        go_wp2_with (first | (with_reducible refine ((HFU.out _ (ENV.out.below HB.out)).mono ?_); rintro e w' ⟨rfl, hb⟩; replace HR := Lib.hid (HR.out.keep hb); replace HK := Lib.hid (HK.out.keep hb); clear k0 k1 k2 k3 kf0 kf1 kf2 kf3; replace HX := Lib.hid (HX.out.keep hb); clear x0 x1 x2 x3 x4 x5 x6 x7 x8 x9 x10 x11 xf0 xf1 xf2 xf3 xf4 xf5 xf6 xf7 xf8 xf9 xf10 xf11; replace HB := Lib.hid (bch' HB.out hb); clear hb; obtain ⟨k0, k1, k2, k3, kf0, kf1, kf2, kf3⟩ := HK.out.c4; obtain ⟨x0, x1, x2, x3, x4, x5, x6, x7, x8, x9, x10, x11, xf0, xf1, xf2, xf3, xf4, xf5, xf6, xf7, xf8, xf9, xf10, xf11⟩ := HX.out.c12))
        go_meet
        refine ⟨Lib.hid ((((HB.out.setCell hX0 _).setCell hX0 _).setCell hX0 _).setCell hX0 _), Lib.hid ((((HK.out.far hX2 _).far hX2 _).far hX2 _).far hX2 _), Lib.hid ((((HR.out.far hX1 _).far hX1 _).far hX1 _).far hX1 _), Lib.hid (HX.out.gl12 _ _ _ _)⟩
    case rest =>
      obtain ⟨HB2, HK2, HR2, HX2⟩ := hcut
      clear HB HR HX HK HFU HCK HFA
      clear k0 k1 k2 k3 kf0 kf1 kf2 kf3
      have HB := HB2; have HR := HR2; have HX := HX2; have HK := HK2; clear HB2 HR2 HX2 HK2
      have HL := Lib.hid (FdsAt.kept HL0.out HB.out)
      obtain ⟨k0, k1, k2, k3, kf0, kf1, kf2, kf3⟩ := HK.out.c4
      obtain ⟨x0, x1, x2, x3, x4, x5, x6, x7, x8, x9, x10, x11, xf0, xf1, xf2, xf3, xf4, xf5, xf6, xf7, xf8, xf9, xf10, xf11⟩ := HX.out.c12
      go_wp2_with fail
      refine ((HBS.out _ HL.out).mono ?_)
      rintro e w2 ⟨i, hh, rfl, hb⟩
      replace HR := Lib.hid (HR.out.keep hb); replace HX := Lib.hid (HX.out.keep hb); replace HK := Lib.hid (HK.out.keep hb); clear x0 x1 x2 x3 x4 x5 x6 x7 x8 x9 x10 x11 xf0 xf1 xf2 xf3 xf4 xf5 xf6 xf7 xf8 xf9 xf10 xf11; clear k0 k1 k2 k3 kf0 kf1 kf2 kf3; replace HB := Lib.hid (bch' HB.out hb); clear hb HL; obtain ⟨x0, x1, x2, x3, x4, x5, x6, x7, x8, x9, x10, x11, xf0, xf1, xf2, xf3, xf4, xf5, xf6, xf7, xf8, xf9, xf10, xf11⟩ := HX.out.c12
      have hgg := fac_hit (inh := inh) FOK.out hh
      have HH := Lib.hid hh; clear hh HBS
      by_cases hit : i < l.length ∧ (fdv l i).su - nu = 0
      · rw [if_pos hit] at hgg
        have HG := Lib.hid hgg; clear hgg
        have HD := Lib.hid (decide_eq_true hit)
        rw [decide_eq_true hit]
        obtain ⟨hi, -⟩ := hit
        have hi2 : (i : Int) < (l.length : Int) := by omega
        obtain ⟨b, o, rfl, hb, hC⟩ := hl2.out (fun h => by subst h; simp at hi)
        replace hC : FdsC w b o l := hC
        obtain ⟨q0, q1, q2, q3, q4, q5⟩ := hC.below HB.out hb i hi
        clear hC
        have hbX : b ≠ X := by omega
        have hbX2 : X ≠ b := by omega
        have hbr : b < w2.heap.size := by have := HB.out.size; omega
        go_upto_if 42 with fail
        go_cut [] (fun wx => Hid (Below w.heap.size w wx) ∧ Hid (Blk wx (w.heap.size + 1) 157 #[.int .i64 0, .int .i64 0, .bool false, .slice none 0 0, .int .i64 0, .string ⟨#[]⟩, .int .i64 0, .int .i64 0, .int .i64 0, .int .i64 0, .int .i64 0, .bool false]) ∧ Hid (Blk wx X 157 #[.int .i64 nu, .int .i64 pr, .bool (inh), (.slice pg gs.length cg), .int .i64 ((fdv l i).su), .string ⟨((fdv l i).fr).toArray⟩, .int .i64 ((fdv l i).tz), .int .i64 ((fdv l i).st), .int .i64 ((fdv l i).ti), .int .i64 ((fdv l i).stp), .int .i64 (i : Int), .bool true]))
        case first =>
          go_wp2_with fail
          go_meet
          refine ⟨Lib.hid ((((((((HB.out.setCell hX0 _).setCell hX0 _).setCell hX0 _).setCell hX0 _).setCell hX0 _).setCell hX0 _).setCell hX0 _).setCell hX0 _), Lib.hid ((((((((HR.out.far hX1 _).far hX1 _).far hX1 _).far hX1 _).far hX1 _).far hX1 _).far hX1 _).far hX1 _), Lib.hid ((HX.out.am12 _ _).fd12 _ _ _ _ _ _)⟩
        case rest =>
          obtain ⟨HB2, HR2, HX2⟩ := hcut
          clear HB HR HX; clear x0 x1 x2 x3 x4 x5 x6 x7 x8 x9 x10 x11 xf0 xf1 xf2 xf3 xf4 xf5 xf6 xf7 xf8 xf9 xf10 xf11
          have HB := HB2; have HR := HR2; have HX := HX2; clear HB2 HR2 HX2
          obtain ⟨x0, x1, x2, x3, x4, x5, x6, x7, x8, x9, x10, x11, xf0, xf1, xf2, xf3, xf4, xf5, xf6, xf7, xf8, xf9, xf10, xf11⟩ := HX.out.c12
          obtain ⟨r0, r1, r2, r3, r4, r5, r6, r7, r8, r9, r10, r11, rf0, rf1, rf2, rf3, rf4, rf5, rf6, rf7, rf8, rf9, rf10, rf11⟩ := HR.out.c12
          go_wp2_with fail
          refine bodyPost_ret_by (v := .tuple #[.agg #[.int .i64 nu, .int .i64 pr, .bool (inh), (.slice pg gs.length cg), .int .i64 ((fdv l i).su), .string ⟨((fdv l i).fr).toArray⟩, .int .i64 ((fdv l i).tz), .int .i64 ((fdv l i).st), .int .i64 ((fdv l i).ti), .int .i64 ((fdv l i).stp), .int .i64 (i : Int), .bool true], .int .i64 0]) (by simp [results, Tryz.f97, go_sem, r0, r1, r2, r3, r4, r5, r6, r7, r8, r9, r10, r11, rf0, rf1, rf2, rf3, rf4, rf5, rf6, rf7, rf8, rf9, rf10, rf11]) rfl ⟨i, HH.out, by rw [HG.out, HD.out], ((((((((((((HB.out.setCell (Nat.le_succ _) _).setCell (Nat.le_succ _) _).setCell (Nat.le_succ _) _).setCell (Nat.le_succ _) _).setCell (Nat.le_succ _) _).setCell (Nat.le_succ _) _).setCell (Nat.le_succ _) _).setCell (Nat.le_succ _) _).setCell (Nat.le_succ _) _).setCell (Nat.le_succ _) _).setCell (Nat.le_succ _) _).setCell (Nat.le_succ _) _)⟩
      · rw [if_neg hit] at hgg
        have HG := Lib.hid hgg; clear hgg
        have HD := Lib.hid (decide_eq_false hit)
        rw [decide_eq_false hit]
        clear hit
        go_upto_if 42 with fail
        go_cut [] (fun wx => Hid (Below w.heap.size w wx) ∧ Hid (Blk wx (w.heap.size + 1) 157 #[.int .i64 0, .int .i64 0, .bool false, .slice none 0 0, .int .i64 0, .string ⟨#[]⟩, .int .i64 0, .int .i64 0, .int .i64 0, .int .i64 0, .int .i64 0, .bool false]) ∧ Hid (Blk wx X 157 #[.int .i64 nu, .int .i64 pr, .bool (inh), (.slice pg gs.length cg), .int .i64 ((fadD nu inh).su), .string ⟨((fadD nu inh).fr).toArray⟩, .int .i64 ((fadD nu inh).tz), .int .i64 ((fadD nu inh).st), .int .i64 ((fadD nu inh).ti), .int .i64 ((fadD nu inh).stp), .int .i64 (i : Int), .bool false]))
        case first =>
          go_wp2_with fail
          go_meet
          refine ⟨Lib.hid ((HB.out.setCell hX0 _).setCell hX0 _), Lib.hid ((HR.out.far hX1 _).far hX1 _), Lib.hid (HX.out.am12 _ _)⟩
        case rest =>
          obtain ⟨HB2, HR2, HX2⟩ := hcut
          clear HB HR HX; clear x0 x1 x2 x3 x4 x5 x6 x7 x8 x9 x10 x11 xf0 xf1 xf2 xf3 xf4 xf5 xf6 xf7 xf8 xf9 xf10 xf11
          have HB := HB2; have HR := HR2; have HX := HX2; clear HB2 HR2 HX2
          obtain ⟨x0, x1, x2, x3, x4, x5, x6, x7, x8, x9, x10, x11, xf0, xf1, xf2, xf3, xf4, xf5, xf6, xf7, xf8, xf9, xf10, xf11⟩ := HX.out.c12
          obtain ⟨r0, r1, r2, r3, r4, r5, r6, r7, r8, r9, r10, r11, rf0, rf1, rf2, rf3, rf4, rf5, rf6, rf7, rf8, rf9, rf10, rf11⟩ := HR.out.c12
          go_wp2_with fail
          refine bodyPost_ret_by (v := .tuple #[.agg #[.int .i64 nu, .int .i64 pr, .bool (inh), (.slice pg gs.length cg), .int .i64 ((fadD nu inh).su), .string ⟨((fadD nu inh).fr).toArray⟩, .int .i64 ((fadD nu inh).tz), .int .i64 ((fadD nu inh).st), .int .i64 ((fadD nu inh).ti), .int .i64 ((fadD nu inh).stp), .int .i64 (i : Int), .bool false], .int .i64 0]) (by simp [results, Tryz.f97, go_sem, r0, r1, r2, r3, r4, r5, r6, r7, r8, r9, r10, r11, rf0, rf1, rf2, rf3, rf4, rf5, rf6, rf7, rf8, rf9, rf10, rf11]) rfl ⟨i, HH.out, by rw [HG.out, HD.out], ((((((((((((HB.out.setCell (Nat.le_succ _) _).setCell (Nat.le_succ _) _).setCell (Nat.le_succ _) _).setCell (Nat.le_succ _) _).setCell (Nat.le_succ _) _).setCell (Nat.le_succ _) _).setCell (Nat.le_succ _) _).setCell (Nat.le_succ _) _).setCell (Nat.le_succ _) _).setCell (Nat.le_succ _) _).setCell (Nat.le_succ _) _).setCell (Nat.le_succ _) _)⟩
end Go.Proofs.YtkjelfmgnkkijaaGreatDoor
namespace Go.Proofs.YtkjelfmgnkkijaaGreatDoor
open Go.RowKit Go.Shelf Lum
open Go.Lib (decDigits itoa)
attribute [local go_sem] bs_get bs_extract_end bs_extract_from bs_extract bs_append

set_option maxRecDepth 100000 in
set_option maxHeartbeats 8000000 in
theorem own_sfactor (nu pr ch t : Int) (inh : Bool) (gs : List Gn) (l : List Fdr) (gv lv : Value) (w : World) (hv : GnsAt w gv gs) (hl : FdsAt w lv l) (hs : sbE ⟨nu, pr, inh, gs⟩ = 0) (hf : facE l = 0) (hlen : ∀ i, i < l.length → (fdv l i).fr.length ≤ 60) (hch : parE ch 0 = 0) (env : Env w) :
    Calls Tryz.prog 39 #[.agg #[.int .i64 nu, .int .i64 pr, .bool (inh), gv], lv, .int .i64 ch, .int .i64 t] w fun e w' => e = .returned (.tuple #[.string ⟨(showR (sclQ ⟨nu, pr, inh, gs⟩ l ch t)).toArray⟩, .int .i64 0]) ∧ Below w.heap.size w w' := by
  obtain ⟨pg, cg, rfl⟩ : ∃ pg cg, gv = .slice pg gs.length cg := by obtain ⟨pg, cg, e, -⟩ := hv; exact ⟨pg, cg, e⟩
  have ENV := Lib.hid env; clear env
  have hok : SubOk ⟨nu, pr, inh, gs⟩ := subOk hs
  have fok := facOk hf
  have hnew := fun W (h1 : GnsAt W (.slice pg gs.length cg) gs) (h2 : FdsAt W lv l) (e : Env W) => own_snew nu pr inh gs l (.slice pg gs.length cg) lv W h1 h2 hs hf (fun i hi => Nat.le_trans (hlen i hi) (by omega)) e
  have hpa := fun W => own_sparam ch 0 W
  rw [hch] at hpa
  have hg := fadG_fg (nu := nu) (inh := inh) fok
  have hx := fadG_len (nu := nu) (inh := inh) hlen
  unfold fgE at hg
  have hlv : ∀ (at_ : Int) (mv : Bool) W, Env W → Calls Tryz.prog 98 #[.agg #[.int .i64 nu, .int .i64 pr, .bool (inh), (.slice pg gs.length cg), .int .i64 ((fadG nu inh l).su), .string ⟨((fadG nu inh l).fr).toArray⟩, .int .i64 ((fadG nu inh l).tz), .int .i64 ((fadG nu inh l).st), .int .i64 ((fadG nu inh l).ti), .int .i64 ((fadG nu inh l).stp), .int .i64 at_, .bool (mv)], .int .i64 t] W fun e w' => e = .returned (.tuple #[.string ⟨(showR (lvlQ nu inh l t)).toArray⟩, .int .i64 0]) ∧ Below W.heap.size W w' := fun at_ mv W e => own_slevel nu pr inh (.slice pg gs.length cg) _ _ _ _ _ at_ t _ mv W hg (by omega) e
  have hga := fun (at_ : Int) (mv : Bool) W (h : GnsAt W (.slice pg gs.length cg) gs) => own_sgain nu pr inh gs (.slice pg gs.length cg) (fadG nu inh l).su (fadG nu inh l).tz (fadG nu inh l).st (fadG nu inh l).ti (fadG nu inh l).stp at_ ch 0 (fadG nu inh l).fr mv W h hok.few hok.par hok.bef hch
  have fl : Fits 182 (lvlQ nu inh l t) := fadL_fits t (fadG_fg fok) (fadG_len hlen)
  have hw0 := fun W (e : Env W) => own_whole 65535 W (by omega) (by omega) e
  rw [show itoa 65535 = [54, 53, 53, 51, 53] by decide +kernel] at hw0
  have hal := (Below.refl w.heap.size w).alloc (Nat.le_refl _) (.cells #[.int .i64 nu, .int .i64 pr, .bool (inh), (.slice pg gs.length cg)] 58)
  have HV := Lib.hid (GnsAt.kept hv hal)
  have HL := Lib.hid (FdsAt.kept hl hal)
  have HB := Lib.hid hal; clear hal
  have HK := Lib.hid (Blk.new w 58 #[.int .i64 nu, .int .i64 pr, .bool (inh), (.slice pg gs.length cg)])
  obtain ⟨k0, k1, k2, k3, kf0, kf1, kf2, kf3⟩ := HK.out.c4
  clear hs hf hv hl hg hx hlen
  cases hgn : gnG gs ch 0 with
  | none =>
    rw [hgn] at hga
    simp only [Option.getD_none, Option.isSome_none] at hga
    rw [sclQ_no (s := ⟨nu, pr, inh, gs⟩) hgn, show showR 1 = [49] by decide +kernel]
    clear fl
    generalize showR (lvlQ nu inh l t) = tl at *
    have HNEW := Lib.hid hnew; clear hnew
    have HPA := Lib.hid hpa; clear hpa
    have HLV := Lib.hid hlv; clear hlv
    have HGA := Lib.hid hga; clear hga
    have HW0 := Lib.hid hw0; clear hw0
    go_enter Tryz.func39, Tryz.ntmps39
    go_wp2_with fail
    refine ((HNEW.out _ HV.out HL.out (ENV.out.below HB.out)).mono ?_)
    rintro e w2 ⟨i, -, rfl, hb⟩
    generalize decide (i < l.length ∧ (fdv l i).su - nu = 0) = mv at *
    have hal := ((Below.refl w2.heap.size w2).alloc (Nat.le_refl _) (.cells #[.int .i64 nu, .int .i64 pr, .bool (inh), (.slice pg gs.length cg), .int .i64 ((fadG nu inh l).su), .string ⟨((fadG nu inh l).fr).toArray⟩, .int .i64 ((fadG nu inh l).tz), .int .i64 ((fadG nu inh l).st), .int .i64 ((fadG nu inh l).ti), .int .i64 ((fadG nu inh l).stp), .int .i64 ((i : Int)), .bool (mv)] 157)).alloc (by simp) (.cells #[.int .i64 ch, .int .i64 0] 72)
    replace HK := Lib.hid ((HK.out.keep hb).keep hal)
    replace HV := Lib.hid (GnsAt.kept (GnsAt.kept HV.out hb) hal)
    replace HL := Lib.hid (FdsAt.kept (FdsAt.kept HL.out hb) hal)
    replace HB := Lib.hid (bch' (bch' HB.out hb) hal)
    clear hb hal HNEW
    clear k0 k1 k2 k3 kf0 kf1 kf2 kf3
    obtain ⟨k0, k1, k2, k3, kf0, kf1, kf2, kf3⟩ := HK.out.c4
    have hG := (Blk.new w2 157 #[.int .i64 nu, .int .i64 pr, .bool (inh), (.slice pg gs.length cg), .int .i64 ((fadG nu inh l).su), .string ⟨((fadG nu inh l).fr).toArray⟩, .int .i64 ((fadG nu inh l).tz), .int .i64 ((fadG nu inh l).st), .int .i64 ((fadG nu inh l).ti), .int .i64 ((fadG nu inh l).stp), .int .i64 ((i : Int)), .bool (mv)]).alloc (.cells #[.int .i64 ch, .int .i64 0] 72)
    have HX := Lib.hid hG; clear hG
    obtain ⟨x0, x1, x2, x3, x4, x5, x6, x7, x8, x9, x10, x11, xf0, xf1, xf2, xf3, xf4, xf5, xf6, xf7, xf8, xf9, xf10, xf11⟩ := HX.out.c12
    have hR := Blk.new (w2.alloc (.cells #[.int .i64 nu, .int .i64 pr, .bool (inh), (.slice pg gs.length cg), .int .i64 ((fadG nu inh l).su), .string ⟨((fadG nu inh l).fr).toArray⟩, .int .i64 ((fadG nu inh l).tz), .int .i64 ((fadG nu inh l).st), .int .i64 ((fadG nu inh l).ti), .int .i64 ((fadG nu inh l).stp), .int .i64 ((i : Int)), .bool (mv)] 157)) 72 #[.int .i64 ch, .int .i64 0]
    rw [World.size_alloc] at hR
    have HP := Lib.hid hR; clear hR
    obtain ⟨p0, p1, pf0, pf1⟩ := HP.out.c2
    go_wp2_with (first | (with_reducible refine ((HPA.out _).mono ?_); rintro e w' ⟨rfl, hb⟩; replace HK := Lib.hid (HK.out.keep hb); clear k0 k1 k2 k3 kf0 kf1 kf2 kf3; replace HX := Lib.hid (HX.out.keep hb); clear x0 x1 x2 x3 x4 x5 x6 x7 x8 x9 x10 x11 xf0 xf1 xf2 xf3 xf4 xf5 xf6 xf7 xf8 xf9 xf10 xf11; replace HP := Lib.hid (HP.out.keep hb); clear p0 p1 pf0 pf1; replace HV := Lib.hid (GnsAt.kept HV.out hb); replace HL := Lib.hid (FdsAt.kept HL.out hb); replace HB := Lib.hid (bch' HB.out hb); clear hb; obtain ⟨k0, k1, k2, k3, kf0, kf1, kf2, kf3⟩ := HK.out.c4; obtain ⟨x0, x1, x2, x3, x4, x5, x6, x7, x8, x9, x10, x11, xf0, xf1, xf2, xf3, xf4, xf5, xf6, xf7, xf8, xf9, xf10, xf11⟩ := HX.out.c12; obtain ⟨p0, p1, pf0, pf1⟩ := HP.out.c2) | (with_reducible refine ((HLV.out _ _ _ (ENV.out.below HB.out)).mono ?_); rintro e w' ⟨rfl, hb⟩; replace HK := Lib.hid (HK.out.keep hb); clear k0 k1 k2 k3 kf0 kf1 kf2 kf3; replace HX := Lib.hid (HX.out.keep hb); clear x0 x1 x2 x3 x4 x5 x6 x7 x8 x9 x10 x11 xf0 xf1 xf2 xf3 xf4 xf5 xf6 xf7 xf8 xf9 xf10 xf11; replace HP := Lib.hid (HP.out.keep hb); clear p0 p1 pf0 pf1; replace HV := Lib.hid (GnsAt.kept HV.out hb); replace HL := Lib.hid (FdsAt.kept HL.out hb); replace HB := Lib.hid (bch' HB.out hb); clear hb; obtain ⟨k0, k1, k2, k3, kf0, kf1, kf2, kf3⟩ := HK.out.c4; obtain ⟨x0, x1, x2, x3, x4, x5, x6, x7, x8, x9, x10, x11, xf0, xf1, xf2, xf3, xf4, xf5, xf6, xf7, xf8, xf9, xf10, xf11⟩ := HX.out.c12; obtain ⟨p0, p1, pf0, pf1⟩ := HP.out.c2) | (with_reducible refine ((HGA.out _ _ _ HV.out).mono ?_); rintro e w' ⟨rfl, hb⟩; replace HK := Lib.hid (HK.out.keep hb); clear k0 k1 k2 k3 kf0 kf1 kf2 kf3; replace HX := Lib.hid (HX.out.keep hb); clear x0 x1 x2 x3 x4 x5 x6 x7 x8 x9 x10 x11 xf0 xf1 xf2 xf3 xf4 xf5 xf6 xf7 xf8 xf9 xf10 xf11; replace HP := Lib.hid (HP.out.keep hb); clear p0 p1 pf0 pf1; replace HV := Lib.hid (GnsAt.kept HV.out hb); replace HL := Lib.hid (FdsAt.kept HL.out hb); replace HB := Lib.hid (bch' HB.out hb); clear hb; obtain ⟨k0, k1, k2, k3, kf0, kf1, kf2, kf3⟩ := HK.out.c4; obtain ⟨x0, x1, x2, x3, x4, x5, x6, x7, x8, x9, x10, x11, xf0, xf1, xf2, xf3, xf4, xf5, xf6, xf7, xf8, xf9, xf10, xf11⟩ := HX.out.c12; obtain ⟨p0, p1, pf0, pf1⟩ := HP.out.c2))
    go_ret2
    exact ⟨rfl, HB.out⟩
  | some g =>
    rw [hgn] at hga
    simp only [Option.getD_some, Option.isSome_some] at hga
    cases inh
    · rw [sclQ_add (s := ⟨nu, pr, false, gs⟩) rfl, show showR 1 = [49] by decide +kernel]
      clear fl
      generalize showR (lvlQ nu false l t) = tl at *
      have HNEW := Lib.hid hnew; clear hnew
      have HPA := Lib.hid hpa; clear hpa
      have HLV := Lib.hid hlv; clear hlv
      have HGA := Lib.hid hga; clear hga
      have HW0 := Lib.hid hw0; clear hw0
      go_enter Tryz.func39, Tryz.ntmps39
      go_wp2_with fail
      refine ((HNEW.out _ HV.out HL.out (ENV.out.below HB.out)).mono ?_)
      rintro e w2 ⟨i, -, rfl, hb⟩
      generalize decide (i < l.length ∧ (fdv l i).su - nu = 0) = mv at *
      have hal := ((Below.refl w2.heap.size w2).alloc (Nat.le_refl _) (.cells #[.int .i64 nu, .int .i64 pr, .bool (false), (.slice pg gs.length cg), .int .i64 ((fadG nu false l).su), .string ⟨((fadG nu false l).fr).toArray⟩, .int .i64 ((fadG nu false l).tz), .int .i64 ((fadG nu false l).st), .int .i64 ((fadG nu false l).ti), .int .i64 ((fadG nu false l).stp), .int .i64 ((i : Int)), .bool (mv)] 157)).alloc (by simp) (.cells #[.int .i64 ch, .int .i64 0] 72)
      replace HK := Lib.hid ((HK.out.keep hb).keep hal)
      replace HV := Lib.hid (GnsAt.kept (GnsAt.kept HV.out hb) hal)
      replace HL := Lib.hid (FdsAt.kept (FdsAt.kept HL.out hb) hal)
      replace HB := Lib.hid (bch' (bch' HB.out hb) hal)
      clear hb hal HNEW
      clear k0 k1 k2 k3 kf0 kf1 kf2 kf3
      obtain ⟨k0, k1, k2, k3, kf0, kf1, kf2, kf3⟩ := HK.out.c4
      have hG := (Blk.new w2 157 #[.int .i64 nu, .int .i64 pr, .bool (false), (.slice pg gs.length cg), .int .i64 ((fadG nu false l).su), .string ⟨((fadG nu false l).fr).toArray⟩, .int .i64 ((fadG nu false l).tz), .int .i64 ((fadG nu false l).st), .int .i64 ((fadG nu false l).ti), .int .i64 ((fadG nu false l).stp), .int .i64 ((i : Int)), .bool (mv)]).alloc (.cells #[.int .i64 ch, .int .i64 0] 72)
      have HX := Lib.hid hG; clear hG
      obtain ⟨x0, x1, x2, x3, x4, x5, x6, x7, x8, x9, x10, x11, xf0, xf1, xf2, xf3, xf4, xf5, xf6, xf7, xf8, xf9, xf10, xf11⟩ := HX.out.c12
      have hR := Blk.new (w2.alloc (.cells #[.int .i64 nu, .int .i64 pr, .bool (false), (.slice pg gs.length cg), .int .i64 ((fadG nu false l).su), .string ⟨((fadG nu false l).fr).toArray⟩, .int .i64 ((fadG nu false l).tz), .int .i64 ((fadG nu false l).st), .int .i64 ((fadG nu false l).ti), .int .i64 ((fadG nu false l).stp), .int .i64 ((i : Int)), .bool (mv)] 157)) 72 #[.int .i64 ch, .int .i64 0]
      rw [World.size_alloc] at hR
      have HP := Lib.hid hR; clear hR
      obtain ⟨p0, p1, pf0, pf1⟩ := HP.out.c2
      go_wp2_with (first | (with_reducible refine ((HPA.out _).mono ?_); rintro e w' ⟨rfl, hb⟩; replace HK := Lib.hid (HK.out.keep hb); clear k0 k1 k2 k3 kf0 kf1 kf2 kf3; replace HX := Lib.hid (HX.out.keep hb); clear x0 x1 x2 x3 x4 x5 x6 x7 x8 x9 x10 x11 xf0 xf1 xf2 xf3 xf4 xf5 xf6 xf7 xf8 xf9 xf10 xf11; replace HP := Lib.hid (HP.out.keep hb); clear p0 p1 pf0 pf1; replace HV := Lib.hid (GnsAt.kept HV.out hb); replace HL := Lib.hid (FdsAt.kept HL.out hb); replace HB := Lib.hid (bch' HB.out hb); clear hb; obtain ⟨k0, k1, k2, k3, kf0, kf1, kf2, kf3⟩ := HK.out.c4; obtain ⟨x0, x1, x2, x3, x4, x5, x6, x7, x8, x9, x10, x11, xf0, xf1, xf2, xf3, xf4, xf5, xf6, xf7, xf8, xf9, xf10, xf11⟩ := HX.out.c12; obtain ⟨p0, p1, pf0, pf1⟩ := HP.out.c2) | (with_reducible refine ((HLV.out _ _ _ (ENV.out.below HB.out)).mono ?_); rintro e w' ⟨rfl, hb⟩; replace HK := Lib.hid (HK.out.keep hb); clear k0 k1 k2 k3 kf0 kf1 kf2 kf3; replace HX := Lib.hid (HX.out.keep hb); clear x0 x1 x2 x3 x4 x5 x6 x7 x8 x9 x10 x11 xf0 xf1 xf2 xf3 xf4 xf5 xf6 xf7 xf8 xf9 xf10 xf11; replace HP := Lib.hid (HP.out.keep hb); clear p0 p1 pf0 pf1; replace HV := Lib.hid (GnsAt.kept HV.out hb); replace HL := Lib.hid (FdsAt.kept HL.out hb); replace HB := Lib.hid (bch' HB.out hb); clear hb; obtain ⟨k0, k1, k2, k3, kf0, kf1, kf2, kf3⟩ := HK.out.c4; obtain ⟨x0, x1, x2, x3, x4, x5, x6, x7, x8, x9, x10, x11, xf0, xf1, xf2, xf3, xf4, xf5, xf6, xf7, xf8, xf9, xf10, xf11⟩ := HX.out.c12; obtain ⟨p0, p1, pf0, pf1⟩ := HP.out.c2) | (with_reducible refine ((HGA.out _ _ _ HV.out).mono ?_); rintro e w' ⟨rfl, hb⟩; replace HK := Lib.hid (HK.out.keep hb); clear k0 k1 k2 k3 kf0 kf1 kf2 kf3; replace HX := Lib.hid (HX.out.keep hb); clear x0 x1 x2 x3 x4 x5 x6 x7 x8 x9 x10 x11 xf0 xf1 xf2 xf3 xf4 xf5 xf6 xf7 xf8 xf9 xf10 xf11; replace HP := Lib.hid (HP.out.keep hb); clear p0 p1 pf0 pf1; replace HV := Lib.hid (GnsAt.kept HV.out hb); replace HL := Lib.hid (FdsAt.kept HL.out hb); replace HB := Lib.hid (bch' HB.out hb); clear hb; obtain ⟨k0, k1, k2, k3, kf0, kf1, kf2, kf3⟩ := HK.out.c4; obtain ⟨x0, x1, x2, x3, x4, x5, x6, x7, x8, x9, x10, x11, xf0, xf1, xf2, xf3, xf4, xf5, xf6, xf7, xf8, xf9, xf10, xf11⟩ := HX.out.c12; obtain ⟨p0, p1, pf0, pf1⟩ := HP.out.c2))
      go_ret2
      exact ⟨rfl, HB.out⟩
    · obtain ⟨g0, g1⟩ := gnG_range (s := ⟨nu, pr, true, gs⟩) hok hgn
      rw [sclQ_is (s := ⟨nu, pr, true, gs⟩) hgn rfl]
      have fd := fits_sub2 f65 fl
      have fs := fits_mul2 fd (div65_fits g0 g1)
      have fq := fits_div2 fs f65 k65_ne
      have hsu := fun W (e : Env W) => own_rsub (showR ((65535 : Int) : Rat)) (showR (lvlQ nu true l t)) W e (len_ok f65 (by omega)) (len_ok fl (by omega))
      rw [sub_gen f65 fl (by omega), k65] at hsu
      have hsh := fun W (e : Env W) => own_sshare g (((65535 : Int) : Rat) - lvlQ nu true l t) W g0 g1 (fd.mono (by omega)) e
      have hdi := fun W (e : Env W) => own_rdiv (showR ((((65535 : Int) : Rat) - lvlQ nu true l t) * Rat.divInt g 65535)) (showR ((65535 : Int) : Rat)) W e (len_ok fs (by omega)) (len_ok f65 (by omega))
      rw [div_gen fs f65 (by omega) k65_ne, k65] at hdi
      have hs1 := fun W (e : Env W) => own_rsub (showR 1) (showR (((((65535 : Int) : Rat) - lvlQ nu true l t) * Rat.divInt g 65535) / ((65535 : Int) : Rat))) W e (len_ok fits_1 (by omega)) (len_ok fq (by omega))
      rw [sub_gen fits_1 fq (by omega), show showR 1 = [49] by decide +kernel] at hs1
      dsimp only at hsu hdi hs1
      change ∀ W, Env W → Calls _ _ _ W (fun e w' => e = .returned (.tuple #[.string ⟨(showR (losQ g (lvlQ nu true l t))).toArray⟩, .int .i64 0]) ∧ _) at hs1
      clear fl fd fs fq g0 g1
      generalize showR (losQ g (lvlQ nu true l t)) = t5 at *
      generalize showR (((((65535 : Int) : Rat) - lvlQ nu true l t) * Rat.divInt g 65535) / ((65535 : Int) : Rat)) = t4 at *
      generalize showR ((((65535 : Int) : Rat) - lvlQ nu true l t) * Rat.divInt g 65535) = t3 at *
      generalize showR (((65535 : Int) : Rat) - lvlQ nu true l t) = t2 at *
      generalize showR (lvlQ nu true l t) = tl at *
      have HSU := Lib.hid hsu; clear hsu
      have HSH := Lib.hid hsh; clear hsh
      have HDI := Lib.hid hdi; clear hdi
      have HS1 := Lib.hid hs1; clear hs1
      have HNEW := Lib.hid hnew; clear hnew
      have HPA := Lib.hid hpa; clear hpa
      have HLV := Lib.hid hlv; clear hlv
      have HGA := Lib.hid hga; clear hga
      have HW0 := Lib.hid hw0; clear hw0
      go_enter Tryz.func39, Tryz.ntmps39
      go_wp2_with fail
      refine ((HNEW.out _ HV.out HL.out (ENV.out.below HB.out)).mono ?_)
      rintro e w2 ⟨i, -, rfl, hb⟩
      generalize decide (i < l.length ∧ (fdv l i).su - nu = 0) = mv at *
      have hal := ((Below.refl w2.heap.size w2).alloc (Nat.le_refl _) (.cells #[.int .i64 nu, .int .i64 pr, .bool (true), (.slice pg gs.length cg), .int .i64 ((fadG nu true l).su), .string ⟨((fadG nu true l).fr).toArray⟩, .int .i64 ((fadG nu true l).tz), .int .i64 ((fadG nu true l).st), .int .i64 ((fadG nu true l).ti), .int .i64 ((fadG nu true l).stp), .int .i64 ((i : Int)), .bool (mv)] 157)).alloc (by simp) (.cells #[.int .i64 ch, .int .i64 0] 72)
      replace HK := Lib.hid ((HK.out.keep hb).keep hal)
      replace HV := Lib.hid (GnsAt.kept (GnsAt.kept HV.out hb) hal)
      replace HL := Lib.hid (FdsAt.kept (FdsAt.kept HL.out hb) hal)
      replace HB := Lib.hid (bch' (bch' HB.out hb) hal)
      clear hb hal HNEW
      clear k0 k1 k2 k3 kf0 kf1 kf2 kf3
      obtain ⟨k0, k1, k2, k3, kf0, kf1, kf2, kf3⟩ := HK.out.c4
      have hG := (Blk.new w2 157 #[.int .i64 nu, .int .i64 pr, .bool (true), (.slice pg gs.length cg), .int .i64 ((fadG nu true l).su), .string ⟨((fadG nu true l).fr).toArray⟩, .int .i64 ((fadG nu true l).tz), .int .i64 ((fadG nu true l).st), .int .i64 ((fadG nu true l).ti), .int .i64 ((fadG nu true l).stp), .int .i64 ((i : Int)), .bool (mv)]).alloc (.cells #[.int .i64 ch, .int .i64 0] 72)
      have HX := Lib.hid hG; clear hG
      obtain ⟨x0, x1, x2, x3, x4, x5, x6, x7, x8, x9, x10, x11, xf0, xf1, xf2, xf3, xf4, xf5, xf6, xf7, xf8, xf9, xf10, xf11⟩ := HX.out.c12
      have hR := Blk.new (w2.alloc (.cells #[.int .i64 nu, .int .i64 pr, .bool (true), (.slice pg gs.length cg), .int .i64 ((fadG nu true l).su), .string ⟨((fadG nu true l).fr).toArray⟩, .int .i64 ((fadG nu true l).tz), .int .i64 ((fadG nu true l).st), .int .i64 ((fadG nu true l).ti), .int .i64 ((fadG nu true l).stp), .int .i64 ((i : Int)), .bool (mv)] 157)) 72 #[.int .i64 ch, .int .i64 0]
      rw [World.size_alloc] at hR
      have HP := Lib.hid hR; clear hR
      obtain ⟨p0, p1, pf0, pf1⟩ := HP.out.c2
      go_wp2_with (first | (with_reducible refine ((HPA.out _).mono ?_); rintro e w' ⟨rfl, hb⟩; replace HK := Lib.hid (HK.out.keep hb); clear k0 k1 k2 k3 kf0 kf1 kf2 kf3; replace HX := Lib.hid (HX.out.keep hb); clear x0 x1 x2 x3 x4 x5 x6 x7 x8 x9 x10 x11 xf0 xf1 xf2 xf3 xf4 xf5 xf6 xf7 xf8 xf9 xf10 xf11; replace HP := Lib.hid (HP.out.keep hb); clear p0 p1 pf0 pf1; replace HV := Lib.hid (GnsAt.kept HV.out hb); replace HL := Lib.hid (FdsAt.kept HL.out hb); replace HB := Lib.hid (bch' HB.out hb); clear hb; obtain ⟨k0, k1, k2, k3, kf0, kf1, kf2, kf3⟩ := HK.out.c4; obtain ⟨x0, x1, x2, x3, x4, x5, x6, x7, x8, x9, x10, x11, xf0, xf1, xf2, xf3, xf4, xf5, xf6, xf7, xf8, xf9, xf10, xf11⟩ := HX.out.c12; obtain ⟨p0, p1, pf0, pf1⟩ := HP.out.c2) | (with_reducible refine ((HLV.out _ _ _ (ENV.out.below HB.out)).mono ?_); rintro e w' ⟨rfl, hb⟩; replace HK := Lib.hid (HK.out.keep hb); clear k0 k1 k2 k3 kf0 kf1 kf2 kf3; replace HX := Lib.hid (HX.out.keep hb); clear x0 x1 x2 x3 x4 x5 x6 x7 x8 x9 x10 x11 xf0 xf1 xf2 xf3 xf4 xf5 xf6 xf7 xf8 xf9 xf10 xf11; replace HP := Lib.hid (HP.out.keep hb); clear p0 p1 pf0 pf1; replace HV := Lib.hid (GnsAt.kept HV.out hb); replace HL := Lib.hid (FdsAt.kept HL.out hb); replace HB := Lib.hid (bch' HB.out hb); clear hb; obtain ⟨k0, k1, k2, k3, kf0, kf1, kf2, kf3⟩ := HK.out.c4; obtain ⟨x0, x1, x2, x3, x4, x5, x6, x7, x8, x9, x10, x11, xf0, xf1, xf2, xf3, xf4, xf5, xf6, xf7, xf8, xf9, xf10, xf11⟩ := HX.out.c12; obtain ⟨p0, p1, pf0, pf1⟩ := HP.out.c2) | (with_reducible refine ((HGA.out _ _ _ HV.out).mono ?_); rintro e w' ⟨rfl, hb⟩; replace HK := Lib.hid (HK.out.keep hb); clear k0 k1 k2 k3 kf0 kf1 kf2 kf3; replace HX := Lib.hid (HX.out.keep hb); clear x0 x1 x2 x3 x4 x5 x6 x7 x8 x9 x10 x11 xf0 xf1 xf2 xf3 xf4 xf5 xf6 xf7 xf8 xf9 xf10 xf11; replace HP := Lib.hid (HP.out.keep hb); clear p0 p1 pf0 pf1; replace HV := Lib.hid (GnsAt.kept HV.out hb); replace HL := Lib.hid (FdsAt.kept HL.out hb); replace HB := Lib.hid (bch' HB.out hb); clear hb; obtain ⟨k0, k1, k2, k3, kf0, kf1, kf2, kf3⟩ := HK.out.c4; obtain ⟨x0, x1, x2, x3, x4, x5, x6, x7, x8, x9, x10, x11, xf0, xf1, xf2, xf3, xf4, xf5, xf6, xf7, xf8, xf9, xf10, xf11⟩ := HX.out.c12; obtain ⟨p0, p1, pf0, pf1⟩ := HP.out.c2) | (with_reducible refine ((HW0.out _ (ENV.out.below HB.out)).mono ?_); rintro e w' ⟨rfl, hb⟩; replace HK := Lib.hid (HK.out.keep hb); clear k0 k1 k2 k3 kf0 kf1 kf2 kf3; replace HX := Lib.hid (HX.out.keep hb); clear x0 x1 x2 x3 x4 x5 x6 x7 x8 x9 x10 x11 xf0 xf1 xf2 xf3 xf4 xf5 xf6 xf7 xf8 xf9 xf10 xf11; replace HP := Lib.hid (HP.out.keep hb); clear p0 p1 pf0 pf1; replace HV := Lib.hid (GnsAt.kept HV.out hb); replace HL := Lib.hid (FdsAt.kept HL.out hb); replace HB := Lib.hid (bch' HB.out hb); clear hb; obtain ⟨k0, k1, k2, k3, kf0, kf1, kf2, kf3⟩ := HK.out.c4; obtain ⟨x0, x1, x2, x3, x4, x5, x6, x7, x8, x9, x10, x11, xf0, xf1, xf2, xf3, xf4, xf5, xf6, xf7, xf8, xf9, xf10, xf11⟩ := HX.out.c12; obtain ⟨p0, p1, pf0, pf1⟩ := HP.out.c2) | (with_reducible refine ((HSU.out _ (ENV.out.below HB.out)).mono ?_); rintro e w' ⟨rfl, hb⟩; replace HK := Lib.hid (HK.out.keep hb); clear k0 k1 k2 k3 kf0 kf1 kf2 kf3; replace HX := Lib.hid (HX.out.keep hb); clear x0 x1 x2 x3 x4 x5 x6 x7 x8 x9 x10 x11 xf0 xf1 xf2 xf3 xf4 xf5 xf6 xf7 xf8 xf9 xf10 xf11; replace HP := Lib.hid (HP.out.keep hb); clear p0 p1 pf0 pf1; replace HV := Lib.hid (GnsAt.kept HV.out hb); replace HL := Lib.hid (FdsAt.kept HL.out hb); replace HB := Lib.hid (bch' HB.out hb); clear hb; obtain ⟨k0, k1, k2, k3, kf0, kf1, kf2, kf3⟩ := HK.out.c4; obtain ⟨x0, x1, x2, x3, x4, x5, x6, x7, x8, x9, x10, x11, xf0, xf1, xf2, xf3, xf4, xf5, xf6, xf7, xf8, xf9, xf10, xf11⟩ := HX.out.c12; obtain ⟨p0, p1, pf0, pf1⟩ := HP.out.c2) | (with_reducible refine ((HSH.out _ (ENV.out.below HB.out)).mono ?_); rintro e w' ⟨rfl, hb⟩; replace HK := Lib.hid (HK.out.keep hb); clear k0 k1 k2 k3 kf0 kf1 kf2 kf3; replace HX := Lib.hid (HX.out.keep hb); clear x0 x1 x2 x3 x4 x5 x6 x7 x8 x9 x10 x11 xf0 xf1 xf2 xf3 xf4 xf5 xf6 xf7 xf8 xf9 xf10 xf11; replace HP := Lib.hid (HP.out.keep hb); clear p0 p1 pf0 pf1; replace HV := Lib.hid (GnsAt.kept HV.out hb); replace HL := Lib.hid (FdsAt.kept HL.out hb); replace HB := Lib.hid (bch' HB.out hb); clear hb; obtain ⟨k0, k1, k2, k3, kf0, kf1, kf2, kf3⟩ := HK.out.c4; obtain ⟨x0, x1, x2, x3, x4, x5, x6, x7, x8, x9, x10, x11, xf0, xf1, xf2, xf3, xf4, xf5, xf6, xf7, xf8, xf9, xf10, xf11⟩ := HX.out.c12; obtain ⟨p0, p1, pf0, pf1⟩ := HP.out.c2) | (with_reducible refine ((HDI.out _ (ENV.out.below HB.out)).mono ?_); rintro e w' ⟨rfl, hb⟩; replace HK := Lib.hid (HK.out.keep hb); clear k0 k1 k2 k3 kf0 kf1 kf2 kf3; replace HX := Lib.hid (HX.out.keep hb); clear x0 x1 x2 x3 x4 x5 x6 x7 x8 x9 x10 x11 xf0 xf1 xf2 xf3 xf4 xf5 xf6 xf7 xf8 xf9 xf10 xf11; replace HP := Lib.hid (HP.out.keep hb); clear p0 p1 pf0 pf1; replace HV := Lib.hid (GnsAt.kept HV.out hb); replace HL := Lib.hid (FdsAt.kept HL.out hb); replace HB := Lib.hid (bch' HB.out hb); clear hb; obtain ⟨k0, k1, k2, k3, kf0, kf1, kf2, kf3⟩ := HK.out.c4; obtain ⟨x0, x1, x2, x3, x4, x5, x6, x7, x8, x9, x10, x11, xf0, xf1, xf2, xf3, xf4, xf5, xf6, xf7, xf8, xf9, xf10, xf11⟩ := HX.out.c12; obtain ⟨p0, p1, pf0, pf1⟩ := HP.out.c2) | (with_reducible refine ((HS1.out _ (ENV.out.below HB.out)).mono ?_); rintro e w' ⟨rfl, hb⟩; replace HK := Lib.hid (HK.out.keep hb); clear k0 k1 k2 k3 kf0 kf1 kf2 kf3; replace HX := Lib.hid (HX.out.keep hb); clear x0 x1 x2 x3 x4 x5 x6 x7 x8 x9 x10 x11 xf0 xf1 xf2 xf3 xf4 xf5 xf6 xf7 xf8 xf9 xf10 xf11; replace HP := Lib.hid (HP.out.keep hb); clear p0 p1 pf0 pf1; replace HV := Lib.hid (GnsAt.kept HV.out hb); replace HL := Lib.hid (FdsAt.kept HL.out hb); replace HB := Lib.hid (bch' HB.out hb); clear hb; obtain ⟨k0, k1, k2, k3, kf0, kf1, kf2, kf3⟩ := HK.out.c4; obtain ⟨x0, x1, x2, x3, x4, x5, x6, x7, x8, x9, x10, x11, xf0, xf1, xf2, xf3, xf4, xf5, xf6, xf7, xf8, xf9, xf10, xf11⟩ := HX.out.c12; obtain ⟨p0, p1, pf0, pf1⟩ := HP.out.c2))
      go_ret2
      exact ⟨rfl, HB.out⟩
end Go.Proofs.YtkjelfmgnkkijaaGreatDoor
