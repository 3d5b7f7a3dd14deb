/-
  Programmers: the law Goes.
-/
import Derived.Test.YtknlohmkachbmaaGreatDoorPJo
set_option linter.unusedVariables false
set_option linter.unusedSimpArgs false
namespace Lum
open Go Go.RowKit Go.Shelf
open Go.Lib (decDigits itoa)
theorem divI_01 {a b : Int} (h0 : 0 ≤ a) (h1 : a ≤ b) (hb : 0 < b) : 0 ≤ Rat.divInt a b ∧ Rat.divInt a b ≤ 1 := by
  have hb2 : (0 : Rat) < ((b : Int) : Rat) := by rw [show (0 : Rat) = ((0 : Int) : Rat) from rfl]; exact Rat.intCast_lt_intCast.2 hb
  have ha : (0 : Rat) ≤ ((a : Int) : Rat) := by rw [show (0 : Rat) = ((0 : Int) : Rat) from rfl]; exact Rat.intCast_le_intCast.2 h0
  have hc : ((a : Int) : Rat) ≤ ((b : Int) : Rat) := Rat.intCast_le_intCast.2 h1
  rw [Rat.divInt_eq_div]
  refine ⟨Rat.not_lt.1 fun g => ?_, Rat.not_lt.1 fun g => ?_⟩
  · rw [Rat.div_lt_iff hb2] at g; grind
  · rw [Rat.lt_div_iff hb2] at g; grind
theorem least_le {x y : Rat} : least x y ≤ x ∧ least x y ≤ y := by
  unfold least
  split
  · constructor <;> grind
  · constructor <;> grind
theorem most_ge {x y : Rat} : x ≤ most x y ∧ y ≤ most x y := by
  unfold most
  split
  · constructor <;> grind
  · constructor <;> grind
theorem glV_way {q : Rat} {tz st ti : Int} (t : Int) : least q ((tz : Int) : Rat) ≤ glV q tz st ti t ∧ glV q tz st ti t ≤ most q ((tz : Int) : Rat) := by
  have h1 := least_le (x := q) (y := ((tz : Int) : Rat))
  have h2 := most_ge (x := q) (y := ((tz : Int) : Rat))
  generalize least q ((tz : Int) : Rat) = lo at *
  generalize most q ((tz : Int) : Rat) = hi at *
  unfold glV
  split
  · exact ⟨h1.1, h2.1⟩
  split
  · exact ⟨h1.2, h2.2⟩
  · rename_i g1 g2
    obtain ⟨r0, r1⟩ := divI_01 (a := t - st) (b := ti) (by omega) (by omega) (by omega)
    generalize Rat.divInt (t - st) ti = r at *
    generalize ((tz : Int) : Rat) = z at *
    have e0 := Rat.mul_nonneg (show 0 ≤ q - lo by grind) (show 0 ≤ 1 - r by grind)
    have e1 := Rat.mul_nonneg (show 0 ≤ z - lo by grind) r0
    have e2 := Rat.mul_nonneg (show 0 ≤ hi - q by grind) (show 0 ≤ 1 - r by grind)
    have e3 := Rat.mul_nonneg (show 0 ≤ hi - z by grind) r0
    exact ⟨by grind, by grind⟩
theorem show500 : showR ((500 : Int) : Rat) = [53, 48, 48] := by decide +kernel
theorem fits500 : Fits 19 ((500 : Int) : Rat) := fits_i64 500 (by decide) (by decide)
end Lum
namespace Go.Proofs.YtknlohmkachbmaaGreatDoor
open Go.RowKit Go.Shelf Lum
open Go.Lib (decDigits itoa)
attribute [local go_sem] bs_get bs_extract_end bs_extract_from bs_extract bs_append

set_option maxRecDepth 100000 in
set_option maxHeartbeats 16000000 in
theorem law_pgoes (l : List Hnd) (v : Value) (t ti la : Int) (es : List Ent) (now : List Amt) (p1 p2 : Option Addr) (c1 c2 : Nat) (w : World) (hv : HndsAt w v l) (hu : EntsAt w (.slice p1 es.length c1) es) (hz : AmtsAt w (.slice p2 now.length c2) now) (hla : 0 ≤ la ∧ la ≤ 65535) (env : Env w) :
    Calls Tryz.prog 8 #[v, .agg #[.int .i64 t, .int .i64 ti, .slice p1 es.length c1, .slice p2 now.length c2], .int .u16 la] w fun e w' => e = .returned (.bool (true)) ∧ Below w.heap.size w w' := by
  have ENV := Lib.hid env; clear env
  have hal := (Below.refl w.heap.size w).alloc (Nat.le_refl _) (.cells #[.int .i64 t, .int .i64 ti, .slice p1 es.length c1, .slice p2 now.length c2] 48)
  have HV := Lib.hid (HndsAt.kept hv hal); have HU := Lib.hid (EntsAt.kept hu hal); have HZ := Lib.hid (AmtsAt.kept hz hal); have HB := Lib.hid hal; clear hal hv hu hz
  have HK := Lib.hid (Blk.new w 48 #[.int .i64 t, .int .i64 ti, .slice p1 es.length c1, .slice p2 now.length c2])
  obtain ⟨k0, k1, k2, k3, kf0, kf1, kf2, kf3⟩ := HK.out.c4
  have haw := fun W (e : Env W) => l29_awake W e
  have hrg := fun W (h1 : HndsAt W v l) (h2 : EntsAt W (.slice p1 es.length c1) es) (h3 : AmtsAt W (.slice p2 now.length c2) now) => l29_right l v t ti es now p1 p2 c1 c2 W h1 h2 h3
  by_cases hr : rgtB l t ti es now = true
  · obtain ⟨hf, hx, hc, hs⟩ := rgtB_parts hr
    have hS := setR_of hs
    obtain ⟨-, hx2, hx3⟩ := fewX_parts hx
    have hlen : ∀ y ∈ now, y.le.length ≤ 1000 := fun y hy => by have := hx3 y hy; omega
    have hlsh := ((fewH_short hf).1 hS.hl.few).2
    have h1 := fun W (e : Env W) (h1 : HndsAt W v l) (h2 : EntsAt W (.slice p1 es.length c1) es) (h3 : AmtsAt W (.slice p2 now.length c2) now) => own_pset l t es ti now v (.slice p1 es.length c1) (.slice p2 now.length c2) W h1 h2 h3 (fewH_thou hf) (by omega) hlen e
    rw [show setO l t es ti now = (setL l t es ti now) from by unfold setO; rw [if_pos hs], hs] at h1
    unfold SetP at h1
    have hMr := hS.right
    have hMs := hS.short hlsh hx3
    have hMf := hS.few
    have hMa := hS.asc
    have hMz := hS.size
    have hfd : ∀ k (h1 : k < es.length) (h2 : k < now.length), ∃ i, ∃ hi : i < (setL l t es ti now).length, BelP Hnd.ky (setL l t es ti now) (es[k]'h1).ky i true ∧ (setL l t es ti now)[i]'hi = frsH l t ti (es[k]'h1) (now[k]'h2) := fun k h1 h2 => hS.find h1 h2
    have hmo := hS.all.ok
    obtain ⟨M, hM⟩ : ∃ M, M = (setL l t es ti now) := ⟨_, rfl⟩
    rw [← hM] at h1 hMr hMs hMf hMa hMz
    rw [← hM] at hfd
    rw [← hM] at hmo
    have HEL : Hid (es.length ≤ 4096) := Lib.hid hS.he.few
    have HLE := Lib.hid hS.len; have HTM := Lib.hid hS.tim; have HLR : Hid (hnsE l = 0) := Lib.hid hc; have HLS := Lib.hid (fewH_thou hf)
    have HMR := Lib.hid hMr; have HMS : Hid (∀ x ∈ M, x.fr.length ≤ 1000) := Lib.hid (fun x hx => by have := hMs x hx; omega); have HMF := Lib.hid hMf; have HFD := Lib.hid hfd; have HMO := Lib.hid hmo
    rw [hr] at hrg
    clear hf hx hc hs hS hx2 hx3 hlen hlsh hMr hMs hMf hMa hMz hfd hmo hM hr
    have HAW := Lib.hid haw; clear haw
    have HRG := Lib.hid hrg; clear hrg
    have H1 := Lib.hid h1; clear h1
    go_enter Tryz.func8, Tryz.ntmps8
    go_upto_region 6 with (first | (with_reducible refine ((HRG.out _ HV.out HU.out HZ.out).mono ?_); rintro e w' ⟨rfl, hb⟩; replace HK := Lib.hid (HK.out.keep hb); clear k0 k1 k2 k3 kf0 kf1 kf2 kf3; replace HV := Lib.hid (HndsAt.kept HV.out hb); replace HU := Lib.hid (EntsAt.kept HU.out hb); replace HZ := Lib.hid (AmtsAt.kept HZ.out hb); replace HB := Lib.hid (bch' HB.out hb); clear hb; obtain ⟨k0, k1, k2, k3, kf0, kf1, kf2, kf3⟩ := HK.out.c4) | ((with_reducible refine ((H1.out _ (ENV.out.below HB.out) HV.out HU.out HZ.out).mono ?_)); rintro e w2 ⟨v1, rfl, ⟨pm, cm, rfl, hRm⟩, hb⟩; have HM := Lib.hid (show HndsAt w2 (.slice pm M.length cm) M from ⟨_, _, rfl, hRm⟩); clear hRm; replace HK := Lib.hid (HK.out.keep hb); clear k0 k1 k2 k3 kf0 kf1 kf2 kf3; replace HV := Lib.hid (HndsAt.kept HV.out hb); replace HU := Lib.hid (EntsAt.kept HU.out hb); replace HZ := Lib.hid (AmtsAt.kept HZ.out hb); replace HB := Lib.hid (bch' HB.out hb); clear hb; obtain ⟨k0, k1, k2, k3, kf0, kf1, kf2, kf3⟩ := HK.out.c4))
    have HBw := HB; clear HB
    have HB := Lib.hid (Below.refl w2.heap.size w2)
    have HK1 := HK
    have HRE : Hid (RowX encEn 4 w2 p1 es) := Lib.hid (by obtain ⟨p, c, e9, h⟩ := HU.out; injection e9 with e1 e2 e3; subst e1; exact h)
    have HRN : Hid (RowX encAm 3 w2 p2 now) := Lib.hid (by obtain ⟨p, c, e9, h⟩ := HZ.out; injection e9 with e1 e2 e3; subst e1; exact h)
    clear HU HZ
    go_wp2_with fail
    go_loopw [47] (fun s wr => ∃ k : Nat, s = .int .i64 (k : Int) ∧ k ≤ es.length ∧ Hid (Below w2.heap.size w2 wr)) (fun s _ => es.length - (intOf s).toNat)
    case atStart => exact ⟨0, rfl, Nat.zero_le _, HB⟩
    case round =>
      clear HK
      obtain ⟨k, rfl, hk9, HB2⟩ := hrel
      clear HB k0 k1 k2 k3 kf0 kf1 kf2 kf3
      have HB := HB2; clear HB2
      have HK := Lib.hid (HK1.out.keep HB.out)
      obtain ⟨k0, k1, k2, k3, kf0, kf1, kf2, kf3⟩ := HK.out.c4
      by_cases hke : k < es.length
      · have hka : k < now.length := by have := HLE.out; omega
        have hlt : (k : Int) < (es.length : Int) := by omega
        have hlt2 : (k : Int) < (now.length : Int) := by omega
        have hk0 : (0 : Int) ≤ (k : Int) := by omega
        have hlo : k * 4 < 9223372036854775807 := by have := HEL.out; omega
        have hlo2 : k * 3 < 9223372036854775807 := by have := HEL.out; omega
        have hun : IntKind.i64.wrap ((k : Int) + 1) = (k : Int) + 1 := IntWalk.i64_in _ (by have := HEL.out; omega)
        obtain ⟨b1, o1, rfl, hb1, hC1⟩ := HRE.out (fun h => by subst h; exact absurd hke (Nat.not_lt_zero _))
        obtain ⟨b2, o2, rfl, hb2, hC2⟩ := HRN.out (fun h => by subst h; exact absurd hka (Nat.not_lt_zero _))
        obtain ⟨y, hy⟩ : ∃ y, y = es[k]'hke := ⟨_, rfl⟩
        obtain ⟨a, ha⟩ : ∃ a, a = now[k]'hka := ⟨_, rfl⟩
        have hc1 := hC1 k hke
        have hc2 := hC2 k hka
        rw [← hy] at hc1
        rw [← ha] at hc2
        obtain ⟨i, hi, hbl, g1⟩ := HFD.out k hke hka
        rw [← hy] at hbl g1
        rw [← ha] at g1
        obtain ⟨x, hx⟩ : ∃ x, x = M[i]'hi := ⟨_, rfl⟩
        have hxo := HMO.out x (by rw [hx]; exact List.getElem_mem hi)
        have hxs := HMS.out x (by rw [hx]; exact List.getElem_mem hi)
        have hxe : x = frsH l t ti y a := by rw [hx]; exact g1
        obtain ⟨⟨q, hq, q0, q1⟩, -, -⟩ := hndE_parts hxo
        have hst : x.st = t := by rw [hxe]; rfl
        have hti : x.ti = ti := by rw [hxe]; rfl
        have htm := HTM.out
        unfold timB at htm
        have hlvl : ∀ T : Int, levT x T 500 = (showR (glV q 500 t ti T), 0) := fun T => by rw [levT_ok hxo (by omega), hq, valR_showR, hst, hti]
        have hAe : 0 < ti → finB l (y.ch, y.at_) = true → showR (glV q 500 t ti t) = a.le := fun h1 h2 => by
          rw [glV_start (by omega), ← hq, hxe]
          show (if finB l y.ky = true then a.le else itoa (near (valR a.le))) = a.le
          exact if_pos (show finB l y.ky = true from h2)
        have hB5 : showR (glV q 500 t ti (t + ti)) = [53, 48, 48] := by rw [glV_behind (by omega) (by omega)]; exact show500
        have fq : Fits 1001 q := fits_of_len (by rw [← hq]; exact hxs)
        have fC : Fits 2062 (glV q 500 t ti (t + la)) := glV_fits (t + la) fq (by decide) (by decide) (by omega) (by omega) (by omega)
        obtain ⟨w1, w2⟩ := glV_way (q := q) (tz := 500) (st := t) (ti := ti) (t + la)
        have hl1 := fun W (e : Env W) => own_plevel x.ch x.at_ x.fr x.pa x.lv x.st x.ti t 500 W hxs e
        rw [show levT (⟨x.ch, x.at_, x.fr, x.pa, x.lv, x.st, x.ti⟩ : Hnd) t 500 = _ from hlvl t] at hl1
        have hl2 := fun W (e : Env W) => own_plevel x.ch x.at_ x.fr x.pa x.lv x.st x.ti (t + ti) 500 W hxs e
        rw [show levT (⟨x.ch, x.at_, x.fr, x.pa, x.lv, x.st, x.ti⟩ : Hnd) (t + ti) 500 = _ from hlvl (t + ti), hB5] at hl2
        have hl3 := fun W (e : Env W) => own_plevel x.ch x.at_ x.fr x.pa x.lv x.st x.ti (t + la) 500 W hxs e
        rw [show levT (⟨x.ch, x.at_, x.fr, x.pa, x.lv, x.st, x.ti⟩ : Hnd) (t + la) 500 = _ from hlvl (t + la)] at hl3
        dsimp only at hl1 hl2 hl3
        have hch := fun W => r2_check (showR (glV q 500 t ti (t + la))) W (len_ok fC (by omega))
        rw [ratCheck_showR _ (fits_fit2 fC (by omega))] at hch
        have hle_ := fun W => r2_least q ((500 : Int) : Rat) W (fq.mono (by omega)) (fits500.mono (by omega))
        have hmo_ := fun W => r2_most q ((500 : Int) : Rat) W (fq.mono (by omega)) (fits500.mono (by omega))
        rw [show500, ← hq] at hle_ hmo_
        have hor1 := fun W => r2_order (glV q 500 t ti (t + la)) (least q ((500 : Int) : Rat)) W (fC.mono (by omega)) (fits_least2 (fq.mono (by omega)) (fits500.mono (by omega)))
        have hor2 := fun W => r2_order (glV q 500 t ti (t + la)) (most q ((500 : Int) : Rat)) W (fC.mono (by omega)) (fits_most2 (fq.mono (by omega)) (fits500.mono (by omega)))
        have hs1 : ¬ sgn (glV q 500 t ti (t + la)) (least q ((500 : Int) : Rat)) < 0 := fun g => absurd ((sgn_lt _ _).1 g) (Rat.not_lt.2 w1)
        have hs2 : ¬ 0 < sgn (glV q 500 t ti (t + la)) (most q ((500 : Int) : Rat)) := fun g => absurd ((sgn_gt _ _).1 g) (Rat.not_lt.2 w2)
        clear hlvl hB5 fq fC w1 w2 hxe hxo hst hti q0 q1 hq
        generalize sgn (glV q 500 t ti (t + la)) (least q ((500 : Int) : Rat)) = s1 at *
        generalize sgn (glV q 500 t ti (t + la)) (most q ((500 : Int) : Rat)) = s2 at *
        generalize showR (glV q 500 t ti (t + la)) = C at *
        generalize showR (glV q 500 t ti t) = A at *
        generalize showR (least q ((500 : Int) : Rat)) = L at *
        generalize showR (most q ((500 : Int) : Rat)) = U at *
        have HAE := Lib.hid hAe; clear hAe
        have hfd := fun W (e : Env W) (h : HndsAt W (.slice pm M.length cm) M) => own_pfind M (.slice pm M.length cm) y.ch y.at_ W h (fun _ => HMS.out) e
        rw [finT_ok HMR.out, show finI M (y.ch, y.at_) = (i : Int) from (fin_hit hbl).1, show finB M (y.ch, y.at_) = true from (fin_hit hbl).2] at hfd
        dsimp only at hfd
        have hfl := fun W (e : Env W) (h : HndsAt W v l) => own_pfind l v y.ch y.at_ W h HLS.out e
        rw [finT_ok HLR.out] at hfl
        dsimp only at hfl
        generalize finI l (y.ch, y.at_) = zf at *
        clear hbl g1
        have y0 : wr.cell? ⟨b1, o1 + k * 4, none⟩ = some (.int .i64 (y.ch)) := (HB.out.cell (p := ⟨b1, o1 + k * 4 + 0, none⟩) hb1).trans (hc1 0 _ rfl)
        have y1 : wr.cell? ⟨b1, o1 + k * 4 + 1, none⟩ = some (.int .i64 (y.at_)) := (HB.out.cell (p := ⟨b1, o1 + k * 4 + 1, none⟩) hb1).trans (hc1 1 _ rfl)
        have y2 : wr.cell? ⟨b1, o1 + k * 4 + 2, none⟩ = some (.int .i64 (y.pa)) := (HB.out.cell (p := ⟨b1, o1 + k * 4 + 2, none⟩) hb1).trans (hc1 2 _ rfl)
        have y3 : wr.cell? ⟨b1, o1 + k * 4 + 3, none⟩ = some (.int .i64 (y.lv)) := (HB.out.cell (p := ⟨b1, o1 + k * 4 + 3, none⟩) hb1).trans (hc1 3 _ rfl)
        have hbr : b1 < wr.heap.size := Nat.lt_of_lt_of_le hb1 HB.out.size
        have hm1 := HM.out
        obtain ⟨pq, cq, e9, hRq⟩ := hm1
        injection e9 with e91 e92 e93
        subst e91
        clear e92 e93
        obtain ⟨bm, om, rfl, hbm, hCm⟩ := hRq (fun h => by rw [h] at hi; exact absurd hi (Nat.not_lt_zero _))
        have hcm := hCm i hi
        rw [← hx] at hcm
        have HCM := Lib.hid hcm; have HBM := Lib.hid hbm; have HCA := Lib.hid hc2; have HBA := Lib.hid hb2
        clear hcm hbm hCm hRq hc1 hc2 hb1 hb2 hC1 hC2 hy ha hx
        have hii : (i : Int) < (M.length : Int) := by omega
        have hi0 : (0 : Int) ≤ (i : Int) := by omega
        have him : i * 7 < 9223372036854775807 := by have := HMF.out; omega
        have hge : decide ((M.length : Int) ≤ (i : Int)) = false := decide_eq_false (by omega)
        have hge2 : decide (M.length ≤ i) = false := decide_eq_false (by omega)
        have hwt : IntKind.i64.wrap (t + ti) = t + ti := IntWalk.i64_in _ (by omega)
        have hwl : IntKind.i64.wrap la = la := IntWalk.i64_in _ (by omega)
        have hwl2 : IntKind.i64.wrap (t + la) = t + la := IntWalk.i64_in _ (by omega)
        clear htm
        by_cases hti0 : 0 < ti
        · cases hfb : finB l (y.ch, y.at_) with
          | true =>
            rw [hfb] at hfl
            have hA := HAE.out hti0 hfb
            clear hfb HAE
            subst hA
            go_upto_region 9 with fail
            clear y0 y1 y2 y3 hbr
            have hb := (Below.refl wr.heap.size wr).alloc (Nat.le_refl _) (.cells #[.int .i64 (y.ch), .int .i64 (y.at_), .int .i64 (y.pa), .int .i64 (y.lv)] 55)
            have HY := Lib.hid (Blk.new wr 55 #[.int .i64 (y.ch), .int .i64 (y.at_), .int .i64 (y.pa), .int .i64 (y.lv)])
            obtain ⟨n8, hn8⟩ : ∃ n, n = wr.heap.size := ⟨_, rfl⟩
            obtain ⟨Wa, hWWa⟩ : ∃ X, X = wr.alloc (.cells #[.int .i64 (y.ch), .int .i64 (y.at_), .int .i64 (y.pa), .int .i64 (y.lv)] 55) := ⟨_, rfl⟩
            rw [← hn8] at HY ⊢
            rw [← hWWa] at hb HY ⊢
            replace HK := Lib.hid (HK.out.keep hb); clear k0 k1 k2 k3 kf0 kf1 kf2 kf3; replace HB := Lib.hid (bch' HB.out hb); clear hb; obtain ⟨k0, k1, k2, k3, kf0, kf1, kf2, kf3⟩ := HK.out.c4
            clear hWWa hn8
            obtain ⟨y0, y1, y2, y3, yf0, yf1, yf2, yf3⟩ := HY.out.c4
            have HFA := Lib.hid hfd; have HFL := Lib.hid hfl; have HL1 := Lib.hid hl1; have HL2 := Lib.hid hl2; have HL3 := Lib.hid hl3; have HCH := Lib.hid hch; have HLO := Lib.hid hle_; have HHI := Lib.hid hmo_; have HO1 := Lib.hid hor1; have HO2 := Lib.hid hor2
            clear hfd hfl hl1 hl2 hl3 hch hle_ hmo_ hor1 hor2
            go_upto_region 13 with (first | (with_reducible refine ((HFA.out _ (ENV.out.below (bch' HBw.out HB.out)) (HndsAt.kept HM.out HB.out)).mono ?_); rintro e w' ⟨rfl, hb⟩; replace HK := Lib.hid (HK.out.keep hb); clear k0 k1 k2 k3 kf0 kf1 kf2 kf3; replace HY := Lib.hid (HY.out.keep hb); clear y0 y1 y2 y3 yf0 yf1 yf2 yf3; replace HB := Lib.hid (bch' HB.out hb); clear hb; obtain ⟨k0, k1, k2, k3, kf0, kf1, kf2, kf3⟩ := HK.out.c4; obtain ⟨y0, y1, y2, y3, yf0, yf1, yf2, yf3⟩ := HY.out.c4) | (with_reducible refine ((HFL.out _ (ENV.out.below (bch' HBw.out HB.out)) (HndsAt.kept HV.out HB.out)).mono ?_); rintro e w' ⟨rfl, hb⟩; replace HK := Lib.hid (HK.out.keep hb); clear k0 k1 k2 k3 kf0 kf1 kf2 kf3; replace HY := Lib.hid (HY.out.keep hb); clear y0 y1 y2 y3 yf0 yf1 yf2 yf3; replace HB := Lib.hid (bch' HB.out hb); clear hb; obtain ⟨k0, k1, k2, k3, kf0, kf1, kf2, kf3⟩ := HK.out.c4; obtain ⟨y0, y1, y2, y3, yf0, yf1, yf2, yf3⟩ := HY.out.c4))
            have m0 := fun p : BelowOf _ => ((bch' HB.out p.h).cell (p := ⟨bm, om + i * 7, none⟩) HBM.out).trans (HCM.out 0 _ rfl)
            have m1 := fun p : BelowOf _ => ((bch' HB.out p.h).cell (p := ⟨bm, om + i * 7 + 1, none⟩) HBM.out).trans (HCM.out 1 _ rfl)
            have m2 := fun p : BelowOf _ => ((bch' HB.out p.h).cell (p := ⟨bm, om + i * 7 + 2, none⟩) HBM.out).trans (HCM.out 2 _ rfl)
            have m3 := fun p : BelowOf _ => ((bch' HB.out p.h).cell (p := ⟨bm, om + i * 7 + 3, none⟩) HBM.out).trans (HCM.out 3 _ rfl)
            have m4 := fun p : BelowOf _ => ((bch' HB.out p.h).cell (p := ⟨bm, om + i * 7 + 4, none⟩) HBM.out).trans (HCM.out 4 _ rfl)
            have m5 := fun p : BelowOf _ => ((bch' HB.out p.h).cell (p := ⟨bm, om + i * 7 + 5, none⟩) HBM.out).trans (HCM.out 5 _ rfl)
            have m6 := fun p : BelowOf _ => ((bch' HB.out p.h).cell (p := ⟨bm, om + i * 7 + 6, none⟩) HBM.out).trans (HCM.out 6 _ rfl)
            have zm := fun p : BelowOf _ => Nat.lt_of_lt_of_le HBM.out (bch' HB.out p.h).size
            have g0 := fun p : BelowOf _ => (HK.out.keep p.h).c4.1
            have g1 := fun p : BelowOf _ => (HK.out.keep p.h).c4.2.1
            refine wp_region_WQ (by kernel_rfl) (by kernel_rfl) ?_
            repeat (refine WQ.step (fun K hK => ?_); go_simp; first | (refine hK.out _ ?_; clear hK K) | (apply Exists.intro; refine ⟨fun _ => ?_, hK.out _ ?_⟩; (first | rfl | (go_at_call 14; exact calls_below_of _ (HL1.out _ (ENV.out.below (bch' HBw.out (bch' HB.out (BelowOf.h _))))))); clear hK K))
            refine WQ.nil ?_
            intro Wq hw'
            obtain ⟨⟨wq, hbq⟩, hw2⟩ := hw'
            subst hw2
            replace HK := Lib.hid (HK.out.keep hbq); replace HY := Lib.hid (HY.out.keep hbq); clear k0 k1 k2 k3 kf0 kf1 kf2 kf3; clear y0 y1 y2 y3 yf0 yf1 yf2 yf3
            replace HB := Lib.hid (bch' HB.out hbq)
            clear m0 m1 m2 m3 m4 m5 m6 zm g0 g1
            obtain ⟨k0, k1, k2, k3, kf0, kf1, kf2, kf3⟩ := HK.out.c4
            obtain ⟨y0, y1, y2, y3, yf0, yf1, yf2, yf3⟩ := HY.out.c4
            go_upto_region 14 with fail
            have m0 := fun p : BelowOf _ => ((bch' HB.out p.h).cell (p := ⟨bm, om + i * 7, none⟩) HBM.out).trans (HCM.out 0 _ rfl)
            have m1 := fun p : BelowOf _ => ((bch' HB.out p.h).cell (p := ⟨bm, om + i * 7 + 1, none⟩) HBM.out).trans (HCM.out 1 _ rfl)
            have m2 := fun p : BelowOf _ => ((bch' HB.out p.h).cell (p := ⟨bm, om + i * 7 + 2, none⟩) HBM.out).trans (HCM.out 2 _ rfl)
            have m3 := fun p : BelowOf _ => ((bch' HB.out p.h).cell (p := ⟨bm, om + i * 7 + 3, none⟩) HBM.out).trans (HCM.out 3 _ rfl)
            have m4 := fun p : BelowOf _ => ((bch' HB.out p.h).cell (p := ⟨bm, om + i * 7 + 4, none⟩) HBM.out).trans (HCM.out 4 _ rfl)
            have m5 := fun p : BelowOf _ => ((bch' HB.out p.h).cell (p := ⟨bm, om + i * 7 + 5, none⟩) HBM.out).trans (HCM.out 5 _ rfl)
            have m6 := fun p : BelowOf _ => ((bch' HB.out p.h).cell (p := ⟨bm, om + i * 7 + 6, none⟩) HBM.out).trans (HCM.out 6 _ rfl)
            have zm := fun p : BelowOf _ => Nat.lt_of_lt_of_le HBM.out (bch' HB.out p.h).size
            have g0 := fun p : BelowOf _ => (HK.out.keep p.h).c4.1
            have g1 := fun p : BelowOf _ => (HK.out.keep p.h).c4.2.1
            refine wp_region_WQ (by kernel_rfl) (by kernel_rfl) ?_
            repeat (refine WQ.step (fun K hK => ?_); go_simp; first | (refine hK.out _ ?_; clear hK K) | (apply Exists.intro; refine ⟨fun _ => ?_, hK.out _ ?_⟩; (first | rfl | (go_at_call 14; exact calls_below_of _ (HL2.out _ (ENV.out.below (bch' HBw.out (bch' HB.out (BelowOf.h _))))))); clear hK K))
            refine WQ.nil ?_
            intro Wq hw'
            obtain ⟨⟨wq, hbq⟩, hw2⟩ := hw'
            subst hw2
            replace HK := Lib.hid (HK.out.keep hbq); replace HY := Lib.hid (HY.out.keep hbq); clear k0 k1 k2 k3 kf0 kf1 kf2 kf3; clear y0 y1 y2 y3 yf0 yf1 yf2 yf3
            replace HB := Lib.hid (bch' HB.out hbq)
            clear m0 m1 m2 m3 m4 m5 m6 zm g0 g1
            obtain ⟨k0, k1, k2, k3, kf0, kf1, kf2, kf3⟩ := HK.out.c4
            obtain ⟨y0, y1, y2, y3, yf0, yf1, yf2, yf3⟩ := HY.out.c4
            go_upto_region 15 with fail
            have m0 := fun p : BelowOf _ => ((bch' HB.out p.h).cell (p := ⟨bm, om + i * 7, none⟩) HBM.out).trans (HCM.out 0 _ rfl)
            have m1 := fun p : BelowOf _ => ((bch' HB.out p.h).cell (p := ⟨bm, om + i * 7 + 1, none⟩) HBM.out).trans (HCM.out 1 _ rfl)
            have m2 := fun p : BelowOf _ => ((bch' HB.out p.h).cell (p := ⟨bm, om + i * 7 + 2, none⟩) HBM.out).trans (HCM.out 2 _ rfl)
            have m3 := fun p : BelowOf _ => ((bch' HB.out p.h).cell (p := ⟨bm, om + i * 7 + 3, none⟩) HBM.out).trans (HCM.out 3 _ rfl)
            have m4 := fun p : BelowOf _ => ((bch' HB.out p.h).cell (p := ⟨bm, om + i * 7 + 4, none⟩) HBM.out).trans (HCM.out 4 _ rfl)
            have m5 := fun p : BelowOf _ => ((bch' HB.out p.h).cell (p := ⟨bm, om + i * 7 + 5, none⟩) HBM.out).trans (HCM.out 5 _ rfl)
            have m6 := fun p : BelowOf _ => ((bch' HB.out p.h).cell (p := ⟨bm, om + i * 7 + 6, none⟩) HBM.out).trans (HCM.out 6 _ rfl)
            have zm := fun p : BelowOf _ => Nat.lt_of_lt_of_le HBM.out (bch' HB.out p.h).size
            have g0 := fun p : BelowOf _ => (HK.out.keep p.h).c4.1
            have g1 := fun p : BelowOf _ => (HK.out.keep p.h).c4.2.1
            refine wp_region_WQ (by kernel_rfl) (by kernel_rfl) ?_
            repeat (refine WQ.step (fun K hK => ?_); go_simp; first | (refine hK.out _ ?_; clear hK K) | (apply Exists.intro; refine ⟨fun _ => ?_, hK.out _ ?_⟩; (first | rfl | (go_at_call 14; exact calls_below_of _ (HL3.out _ (ENV.out.below (bch' HBw.out (bch' HB.out (BelowOf.h _))))))); clear hK K))
            refine WQ.nil ?_
            intro Wq hw'
            obtain ⟨⟨wq, hbq⟩, hw2⟩ := hw'
            subst hw2
            replace HK := Lib.hid (HK.out.keep hbq); replace HY := Lib.hid (HY.out.keep hbq); clear k0 k1 k2 k3 kf0 kf1 kf2 kf3; clear y0 y1 y2 y3 yf0 yf1 yf2 yf3
            replace HB := Lib.hid (bch' HB.out hbq)
            clear m0 m1 m2 m3 m4 m5 m6 zm g0 g1
            obtain ⟨k0, k1, k2, k3, kf0, kf1, kf2, kf3⟩ := HK.out.c4
            obtain ⟨y0, y1, y2, y3, yf0, yf1, yf2, yf3⟩ := HY.out.c4
            have a2 : Wq.cell? ⟨b2, o2 + k * 3 + 2, none⟩ = some (.string ⟨a.le.toArray⟩) := ((HB.out).cell (p := ⟨b2, o2 + k * 3 + 2, none⟩) HBA.out).trans (HCA.out 2 _ rfl)
            have hba : b2 < Wq.heap.size := Nat.lt_of_lt_of_le HBA.out HB.out.size
            go_upto_region 18 with (first | (with_reducible refine ((HCH.out _).mono ?_); rintro e w' ⟨rfl, hb⟩; replace HK := Lib.hid (HK.out.keep hb); clear k0 k1 k2 k3 kf0 kf1 kf2 kf3; replace HY := Lib.hid (HY.out.keep hb); clear y0 y1 y2 y3 yf0 yf1 yf2 yf3; replace HB := Lib.hid (bch' HB.out hb); clear hb; obtain ⟨k0, k1, k2, k3, kf0, kf1, kf2, kf3⟩ := HK.out.c4; obtain ⟨y0, y1, y2, y3, yf0, yf1, yf2, yf3⟩ := HY.out.c4))
            clear a2 hba
            have m0 := fun p : BelowOf _ => ((bch' HB.out p.h).cell (p := ⟨bm, om + i * 7, none⟩) HBM.out).trans (HCM.out 0 _ rfl)
            have m1 := fun p : BelowOf _ => ((bch' HB.out p.h).cell (p := ⟨bm, om + i * 7 + 1, none⟩) HBM.out).trans (HCM.out 1 _ rfl)
            have m2 := fun p : BelowOf _ => ((bch' HB.out p.h).cell (p := ⟨bm, om + i * 7 + 2, none⟩) HBM.out).trans (HCM.out 2 _ rfl)
            have m3 := fun p : BelowOf _ => ((bch' HB.out p.h).cell (p := ⟨bm, om + i * 7 + 3, none⟩) HBM.out).trans (HCM.out 3 _ rfl)
            have m4 := fun p : BelowOf _ => ((bch' HB.out p.h).cell (p := ⟨bm, om + i * 7 + 4, none⟩) HBM.out).trans (HCM.out 4 _ rfl)
            have m5 := fun p : BelowOf _ => ((bch' HB.out p.h).cell (p := ⟨bm, om + i * 7 + 5, none⟩) HBM.out).trans (HCM.out 5 _ rfl)
            have m6 := fun p : BelowOf _ => ((bch' HB.out p.h).cell (p := ⟨bm, om + i * 7 + 6, none⟩) HBM.out).trans (HCM.out 6 _ rfl)
            have zm := fun p : BelowOf _ => Nat.lt_of_lt_of_le HBM.out (bch' HB.out p.h).size
            refine wp_region_WQ (by kernel_rfl) (by kernel_rfl) ?_
            repeat (refine WQ.step (fun K hK => ?_); go_simp; first | (refine hK.out _ ?_; clear hK K) | (apply Exists.intro; refine ⟨fun _ => ?_, hK.out _ ?_⟩; (first | rfl | (go_at_call 30; exact calls_below_of _ (HLO.out _)) | (go_at_call 31; exact calls_below_of _ (HHI.out _))); clear hK K))
            refine WQ.nil ?_
            intro Wq hw'
            obtain ⟨⟨wq, hbq⟩, hw2⟩ := hw'
            subst hw2
            replace HK := Lib.hid (HK.out.keep hbq); replace HY := Lib.hid (HY.out.keep hbq); clear k0 k1 k2 k3 kf0 kf1 kf2 kf3; clear y0 y1 y2 y3 yf0 yf1 yf2 yf3
            replace HB := Lib.hid (bch' HB.out hbq)
            clear m0 m1 m2 m3 m4 m5 m6 zm
            obtain ⟨k0, k1, k2, k3, kf0, kf1, kf2, kf3⟩ := HK.out.c4
            obtain ⟨y0, y1, y2, y3, yf0, yf1, yf2, yf3⟩ := HY.out.c4
            go_wp2_with (first | (with_reducible refine ((HO1.out _).mono ?_); rintro e w' ⟨rfl, hb⟩; replace HK := Lib.hid (HK.out.keep hb); clear k0 k1 k2 k3 kf0 kf1 kf2 kf3; replace HY := Lib.hid (HY.out.keep hb); clear y0 y1 y2 y3 yf0 yf1 yf2 yf3; replace HB := Lib.hid (bch' HB.out hb); clear hb; obtain ⟨k0, k1, k2, k3, kf0, kf1, kf2, kf3⟩ := HK.out.c4; obtain ⟨y0, y1, y2, y3, yf0, yf1, yf2, yf3⟩ := HY.out.c4) | (with_reducible refine ((HO2.out _).mono ?_); rintro e w' ⟨rfl, hb⟩; replace HK := Lib.hid (HK.out.keep hb); clear k0 k1 k2 k3 kf0 kf1 kf2 kf3; replace HY := Lib.hid (HY.out.keep hb); clear y0 y1 y2 y3 yf0 yf1 yf2 yf3; replace HB := Lib.hid (bch' HB.out hb); clear hb; obtain ⟨k0, k1, k2, k3, kf0, kf1, kf2, kf3⟩ := HK.out.c4; obtain ⟨y0, y1, y2, y3, yf0, yf1, yf2, yf3⟩ := HY.out.c4))
            go_roundw
            case rel => exact ⟨k + 1, by first | rfl | simp, by omega, HB⟩
            case measure => first | (simp [intOf]; done) | (simp [intOf]; omega)
          | false =>
            rw [hfb] at hfl
            clear hfb HAE
            go_upto_region 9 with fail
            clear y0 y1 y2 y3 hbr
            have hb := (Below.refl wr.heap.size wr).alloc (Nat.le_refl _) (.cells #[.int .i64 (y.ch), .int .i64 (y.at_), .int .i64 (y.pa), .int .i64 (y.lv)] 55)
            have HY := Lib.hid (Blk.new wr 55 #[.int .i64 (y.ch), .int .i64 (y.at_), .int .i64 (y.pa), .int .i64 (y.lv)])
            obtain ⟨n8, hn8⟩ : ∃ n, n = wr.heap.size := ⟨_, rfl⟩
            obtain ⟨Wa, hWWa⟩ : ∃ X, X = wr.alloc (.cells #[.int .i64 (y.ch), .int .i64 (y.at_), .int .i64 (y.pa), .int .i64 (y.lv)] 55) := ⟨_, rfl⟩
            rw [← hn8] at HY ⊢
            rw [← hWWa] at hb HY ⊢
            replace HK := Lib.hid (HK.out.keep hb); clear k0 k1 k2 k3 kf0 kf1 kf2 kf3; replace HB := Lib.hid (bch' HB.out hb); clear hb; obtain ⟨k0, k1, k2, k3, kf0, kf1, kf2, kf3⟩ := HK.out.c4
            clear hWWa hn8
            obtain ⟨y0, y1, y2, y3, yf0, yf1, yf2, yf3⟩ := HY.out.c4
            have HFA := Lib.hid hfd; have HFL := Lib.hid hfl; have HL1 := Lib.hid hl1; have HL2 := Lib.hid hl2; have HL3 := Lib.hid hl3; have HCH := Lib.hid hch; have HLO := Lib.hid hle_; have HHI := Lib.hid hmo_; have HO1 := Lib.hid hor1; have HO2 := Lib.hid hor2
            clear hfd hfl hl1 hl2 hl3 hch hle_ hmo_ hor1 hor2
            go_upto_region 13 with (first | (with_reducible refine ((HFA.out _ (ENV.out.below (bch' HBw.out HB.out)) (HndsAt.kept HM.out HB.out)).mono ?_); rintro e w' ⟨rfl, hb⟩; replace HK := Lib.hid (HK.out.keep hb); clear k0 k1 k2 k3 kf0 kf1 kf2 kf3; replace HY := Lib.hid (HY.out.keep hb); clear y0 y1 y2 y3 yf0 yf1 yf2 yf3; replace HB := Lib.hid (bch' HB.out hb); clear hb; obtain ⟨k0, k1, k2, k3, kf0, kf1, kf2, kf3⟩ := HK.out.c4; obtain ⟨y0, y1, y2, y3, yf0, yf1, yf2, yf3⟩ := HY.out.c4) | (with_reducible refine ((HFL.out _ (ENV.out.below (bch' HBw.out HB.out)) (HndsAt.kept HV.out HB.out)).mono ?_); rintro e w' ⟨rfl, hb⟩; replace HK := Lib.hid (HK.out.keep hb); clear k0 k1 k2 k3 kf0 kf1 kf2 kf3; replace HY := Lib.hid (HY.out.keep hb); clear y0 y1 y2 y3 yf0 yf1 yf2 yf3; replace HB := Lib.hid (bch' HB.out hb); clear hb; obtain ⟨k0, k1, k2, k3, kf0, kf1, kf2, kf3⟩ := HK.out.c4; obtain ⟨y0, y1, y2, y3, yf0, yf1, yf2, yf3⟩ := HY.out.c4))
            have m0 := fun p : BelowOf _ => ((bch' HB.out p.h).cell (p := ⟨bm, om + i * 7, none⟩) HBM.out).trans (HCM.out 0 _ rfl)
            have m1 := fun p : BelowOf _ => ((bch' HB.out p.h).cell (p := ⟨bm, om + i * 7 + 1, none⟩) HBM.out).trans (HCM.out 1 _ rfl)
            have m2 := fun p : BelowOf _ => ((bch' HB.out p.h).cell (p := ⟨bm, om + i * 7 + 2, none⟩) HBM.out).trans (HCM.out 2 _ rfl)
            have m3 := fun p : BelowOf _ => ((bch' HB.out p.h).cell (p := ⟨bm, om + i * 7 + 3, none⟩) HBM.out).trans (HCM.out 3 _ rfl)
            have m4 := fun p : BelowOf _ => ((bch' HB.out p.h).cell (p := ⟨bm, om + i * 7 + 4, none⟩) HBM.out).trans (HCM.out 4 _ rfl)
            have m5 := fun p : BelowOf _ => ((bch' HB.out p.h).cell (p := ⟨bm, om + i * 7 + 5, none⟩) HBM.out).trans (HCM.out 5 _ rfl)
            have m6 := fun p : BelowOf _ => ((bch' HB.out p.h).cell (p := ⟨bm, om + i * 7 + 6, none⟩) HBM.out).trans (HCM.out 6 _ rfl)
            have zm := fun p : BelowOf _ => Nat.lt_of_lt_of_le HBM.out (bch' HB.out p.h).size
            have g0 := fun p : BelowOf _ => (HK.out.keep p.h).c4.1
            have g1 := fun p : BelowOf _ => (HK.out.keep p.h).c4.2.1
            refine wp_region_WQ (by kernel_rfl) (by kernel_rfl) ?_
            repeat (refine WQ.step (fun K hK => ?_); go_simp; first | (refine hK.out _ ?_; clear hK K) | (apply Exists.intro; refine ⟨fun _ => ?_, hK.out _ ?_⟩; (first | rfl | (go_at_call 14; exact calls_below_of _ (HL1.out _ (ENV.out.below (bch' HBw.out (bch' HB.out (BelowOf.h _))))))); clear hK K))
            refine WQ.nil ?_
            intro Wq hw'
            obtain ⟨⟨wq, hbq⟩, hw2⟩ := hw'
            subst hw2
            replace HK := Lib.hid (HK.out.keep hbq); replace HY := Lib.hid (HY.out.keep hbq); clear k0 k1 k2 k3 kf0 kf1 kf2 kf3; clear y0 y1 y2 y3 yf0 yf1 yf2 yf3
            replace HB := Lib.hid (bch' HB.out hbq)
            clear m0 m1 m2 m3 m4 m5 m6 zm g0 g1
            obtain ⟨k0, k1, k2, k3, kf0, kf1, kf2, kf3⟩ := HK.out.c4
            obtain ⟨y0, y1, y2, y3, yf0, yf1, yf2, yf3⟩ := HY.out.c4
            go_upto_region 14 with fail
            have m0 := fun p : BelowOf _ => ((bch' HB.out p.h).cell (p := ⟨bm, om + i * 7, none⟩) HBM.out).trans (HCM.out 0 _ rfl)
            have m1 := fun p : BelowOf _ => ((bch' HB.out p.h).cell (p := ⟨bm, om + i * 7 + 1, none⟩) HBM.out).trans (HCM.out 1 _ rfl)
            have m2 := fun p : BelowOf _ => ((bch' HB.out p.h).cell (p := ⟨bm, om + i * 7 + 2, none⟩) HBM.out).trans (HCM.out 2 _ rfl)
            have m3 := fun p : BelowOf _ => ((bch' HB.out p.h).cell (p := ⟨bm, om + i * 7 + 3, none⟩) HBM.out).trans (HCM.out 3 _ rfl)
            have m4 := fun p : BelowOf _ => ((bch' HB.out p.h).cell (p := ⟨bm, om + i * 7 + 4, none⟩) HBM.out).trans (HCM.out 4 _ rfl)
            have m5 := fun p : BelowOf _ => ((bch' HB.out p.h).cell (p := ⟨bm, om + i * 7 + 5, none⟩) HBM.out).trans (HCM.out 5 _ rfl)
            have m6 := fun p : BelowOf _ => ((bch' HB.out p.h).cell (p := ⟨bm, om + i * 7 + 6, none⟩) HBM.out).trans (HCM.out 6 _ rfl)
            have zm := fun p : BelowOf _ => Nat.lt_of_lt_of_le HBM.out (bch' HB.out p.h).size
            have g0 := fun p : BelowOf _ => (HK.out.keep p.h).c4.1
            have g1 := fun p : BelowOf _ => (HK.out.keep p.h).c4.2.1
            refine wp_region_WQ (by kernel_rfl) (by kernel_rfl) ?_
            repeat (refine WQ.step (fun K hK => ?_); go_simp; first | (refine hK.out _ ?_; clear hK K) | (apply Exists.intro; refine ⟨fun _ => ?_, hK.out _ ?_⟩; (first | rfl | (go_at_call 14; exact calls_below_of _ (HL2.out _ (ENV.out.below (bch' HBw.out (bch' HB.out (BelowOf.h _))))))); clear hK K))
            refine WQ.nil ?_
            intro Wq hw'
            obtain ⟨⟨wq, hbq⟩, hw2⟩ := hw'
            subst hw2
            replace HK := Lib.hid (HK.out.keep hbq); replace HY := Lib.hid (HY.out.keep hbq); clear k0 k1 k2 k3 kf0 kf1 kf2 kf3; clear y0 y1 y2 y3 yf0 yf1 yf2 yf3
            replace HB := Lib.hid (bch' HB.out hbq)
            clear m0 m1 m2 m3 m4 m5 m6 zm g0 g1
            obtain ⟨k0, k1, k2, k3, kf0, kf1, kf2, kf3⟩ := HK.out.c4
            obtain ⟨y0, y1, y2, y3, yf0, yf1, yf2, yf3⟩ := HY.out.c4
            go_upto_region 15 with fail
            have m0 := fun p : BelowOf _ => ((bch' HB.out p.h).cell (p := ⟨bm, om + i * 7, none⟩) HBM.out).trans (HCM.out 0 _ rfl)
            have m1 := fun p : BelowOf _ => ((bch' HB.out p.h).cell (p := ⟨bm, om + i * 7 + 1, none⟩) HBM.out).trans (HCM.out 1 _ rfl)
            have m2 := fun p : BelowOf _ => ((bch' HB.out p.h).cell (p := ⟨bm, om + i * 7 + 2, none⟩) HBM.out).trans (HCM.out 2 _ rfl)
            have m3 := fun p : BelowOf _ => ((bch' HB.out p.h).cell (p := ⟨bm, om + i * 7 + 3, none⟩) HBM.out).trans (HCM.out 3 _ rfl)
            have m4 := fun p : BelowOf _ => ((bch' HB.out p.h).cell (p := ⟨bm, om + i * 7 + 4, none⟩) HBM.out).trans (HCM.out 4 _ rfl)
            have m5 := fun p : BelowOf _ => ((bch' HB.out p.h).cell (p := ⟨bm, om + i * 7 + 5, none⟩) HBM.out).trans (HCM.out 5 _ rfl)
            have m6 := fun p : BelowOf _ => ((bch' HB.out p.h).cell (p := ⟨bm, om + i * 7 + 6, none⟩) HBM.out).trans (HCM.out 6 _ rfl)
            have zm := fun p : BelowOf _ => Nat.lt_of_lt_of_le HBM.out (bch' HB.out p.h).size
            have g0 := fun p : BelowOf _ => (HK.out.keep p.h).c4.1
            have g1 := fun p : BelowOf _ => (HK.out.keep p.h).c4.2.1
            refine wp_region_WQ (by kernel_rfl) (by kernel_rfl) ?_
            repeat (refine WQ.step (fun K hK => ?_); go_simp; first | (refine hK.out _ ?_; clear hK K) | (apply Exists.intro; refine ⟨fun _ => ?_, hK.out _ ?_⟩; (first | rfl | (go_at_call 14; exact calls_below_of _ (HL3.out _ (ENV.out.below (bch' HBw.out (bch' HB.out (BelowOf.h _))))))); clear hK K))
            refine WQ.nil ?_
            intro Wq hw'
            obtain ⟨⟨wq, hbq⟩, hw2⟩ := hw'
            subst hw2
            replace HK := Lib.hid (HK.out.keep hbq); replace HY := Lib.hid (HY.out.keep hbq); clear k0 k1 k2 k3 kf0 kf1 kf2 kf3; clear y0 y1 y2 y3 yf0 yf1 yf2 yf3
            replace HB := Lib.hid (bch' HB.out hbq)
            clear m0 m1 m2 m3 m4 m5 m6 zm g0 g1
            obtain ⟨k0, k1, k2, k3, kf0, kf1, kf2, kf3⟩ := HK.out.c4
            obtain ⟨y0, y1, y2, y3, yf0, yf1, yf2, yf3⟩ := HY.out.c4
            have a2 : Wq.cell? ⟨b2, o2 + k * 3 + 2, none⟩ = some (.string ⟨a.le.toArray⟩) := ((HB.out).cell (p := ⟨b2, o2 + k * 3 + 2, none⟩) HBA.out).trans (HCA.out 2 _ rfl)
            have hba : b2 < Wq.heap.size := Nat.lt_of_lt_of_le HBA.out HB.out.size
            go_upto_region 18 with (first | (with_reducible refine ((HCH.out _).mono ?_); rintro e w' ⟨rfl, hb⟩; replace HK := Lib.hid (HK.out.keep hb); clear k0 k1 k2 k3 kf0 kf1 kf2 kf3; replace HY := Lib.hid (HY.out.keep hb); clear y0 y1 y2 y3 yf0 yf1 yf2 yf3; replace HB := Lib.hid (bch' HB.out hb); clear hb; obtain ⟨k0, k1, k2, k3, kf0, kf1, kf2, kf3⟩ := HK.out.c4; obtain ⟨y0, y1, y2, y3, yf0, yf1, yf2, yf3⟩ := HY.out.c4))
            clear a2 hba
            have m0 := fun p : BelowOf _ => ((bch' HB.out p.h).cell (p := ⟨bm, om + i * 7, none⟩) HBM.out).trans (HCM.out 0 _ rfl)
            have m1 := fun p : BelowOf _ => ((bch' HB.out p.h).cell (p := ⟨bm, om + i * 7 + 1, none⟩) HBM.out).trans (HCM.out 1 _ rfl)
            have m2 := fun p : BelowOf _ => ((bch' HB.out p.h).cell (p := ⟨bm, om + i * 7 + 2, none⟩) HBM.out).trans (HCM.out 2 _ rfl)
            have m3 := fun p : BelowOf _ => ((bch' HB.out p.h).cell (p := ⟨bm, om + i * 7 + 3, none⟩) HBM.out).trans (HCM.out 3 _ rfl)
            have m4 := fun p : BelowOf _ => ((bch' HB.out p.h).cell (p := ⟨bm, om + i * 7 + 4, none⟩) HBM.out).trans (HCM.out 4 _ rfl)
            have m5 := fun p : BelowOf _ => ((bch' HB.out p.h).cell (p := ⟨bm, om + i * 7 + 5, none⟩) HBM.out).trans (HCM.out 5 _ rfl)
            have m6 := fun p : BelowOf _ => ((bch' HB.out p.h).cell (p := ⟨bm, om + i * 7 + 6, none⟩) HBM.out).trans (HCM.out 6 _ rfl)
            have zm := fun p : BelowOf _ => Nat.lt_of_lt_of_le HBM.out (bch' HB.out p.h).size
            refine wp_region_WQ (by kernel_rfl) (by kernel_rfl) ?_
            repeat (refine WQ.step (fun K hK => ?_); go_simp; first | (refine hK.out _ ?_; clear hK K) | (apply Exists.intro; refine ⟨fun _ => ?_, hK.out _ ?_⟩; (first | rfl | (go_at_call 30; exact calls_below_of _ (HLO.out _)) | (go_at_call 31; exact calls_below_of _ (HHI.out _))); clear hK K))
            refine WQ.nil ?_
            intro Wq hw'
            obtain ⟨⟨wq, hbq⟩, hw2⟩ := hw'
            subst hw2
            replace HK := Lib.hid (HK.out.keep hbq); replace HY := Lib.hid (HY.out.keep hbq); clear k0 k1 k2 k3 kf0 kf1 kf2 kf3; clear y0 y1 y2 y3 yf0 yf1 yf2 yf3
            replace HB := Lib.hid (bch' HB.out hbq)
            clear m0 m1 m2 m3 m4 m5 m6 zm
            obtain ⟨k0, k1, k2, k3, kf0, kf1, kf2, kf3⟩ := HK.out.c4
            obtain ⟨y0, y1, y2, y3, yf0, yf1, yf2, yf3⟩ := HY.out.c4
            go_wp2_with (first | (with_reducible refine ((HO1.out _).mono ?_); rintro e w' ⟨rfl, hb⟩; replace HK := Lib.hid (HK.out.keep hb); clear k0 k1 k2 k3 kf0 kf1 kf2 kf3; replace HY := Lib.hid (HY.out.keep hb); clear y0 y1 y2 y3 yf0 yf1 yf2 yf3; replace HB := Lib.hid (bch' HB.out hb); clear hb; obtain ⟨k0, k1, k2, k3, kf0, kf1, kf2, kf3⟩ := HK.out.c4; obtain ⟨y0, y1, y2, y3, yf0, yf1, yf2, yf3⟩ := HY.out.c4) | (with_reducible refine ((HO2.out _).mono ?_); rintro e w' ⟨rfl, hb⟩; replace HK := Lib.hid (HK.out.keep hb); clear k0 k1 k2 k3 kf0 kf1 kf2 kf3; replace HY := Lib.hid (HY.out.keep hb); clear y0 y1 y2 y3 yf0 yf1 yf2 yf3; replace HB := Lib.hid (bch' HB.out hb); clear hb; obtain ⟨k0, k1, k2, k3, kf0, kf1, kf2, kf3⟩ := HK.out.c4; obtain ⟨y0, y1, y2, y3, yf0, yf1, yf2, yf3⟩ := HY.out.c4))
            go_roundw
            case rel => exact ⟨k + 1, by first | rfl | simp, by omega, HB⟩
            case measure => first | (simp [intOf]; done) | (simp [intOf]; omega)
        · generalize finB l (y.ch, y.at_) = fb at *
          clear HAE
          go_upto_region 9 with fail
          clear y0 y1 y2 y3 hbr
          have hb := (Below.refl wr.heap.size wr).alloc (Nat.le_refl _) (.cells #[.int .i64 (y.ch), .int .i64 (y.at_), .int .i64 (y.pa), .int .i64 (y.lv)] 55)
          have HY := Lib.hid (Blk.new wr 55 #[.int .i64 (y.ch), .int .i64 (y.at_), .int .i64 (y.pa), .int .i64 (y.lv)])
          obtain ⟨n8, hn8⟩ : ∃ n, n = wr.heap.size := ⟨_, rfl⟩
          obtain ⟨Wa, hWWa⟩ : ∃ X, X = wr.alloc (.cells #[.int .i64 (y.ch), .int .i64 (y.at_), .int .i64 (y.pa), .int .i64 (y.lv)] 55) := ⟨_, rfl⟩
          rw [← hn8] at HY ⊢
          rw [← hWWa] at hb HY ⊢
          replace HK := Lib.hid (HK.out.keep hb); clear k0 k1 k2 k3 kf0 kf1 kf2 kf3; replace HB := Lib.hid (bch' HB.out hb); clear hb; obtain ⟨k0, k1, k2, k3, kf0, kf1, kf2, kf3⟩ := HK.out.c4
          clear hWWa hn8
          obtain ⟨y0, y1, y2, y3, yf0, yf1, yf2, yf3⟩ := HY.out.c4
          have HFA := Lib.hid hfd; have HFL := Lib.hid hfl; have HL1 := Lib.hid hl1; have HL2 := Lib.hid hl2; have HL3 := Lib.hid hl3; have HCH := Lib.hid hch; have HLO := Lib.hid hle_; have HHI := Lib.hid hmo_; have HO1 := Lib.hid hor1; have HO2 := Lib.hid hor2
          clear hfd hfl hl1 hl2 hl3 hch hle_ hmo_ hor1 hor2
          go_upto_region 13 with (first | (with_reducible refine ((HFA.out _ (ENV.out.below (bch' HBw.out HB.out)) (HndsAt.kept HM.out HB.out)).mono ?_); rintro e w' ⟨rfl, hb⟩; replace HK := Lib.hid (HK.out.keep hb); clear k0 k1 k2 k3 kf0 kf1 kf2 kf3; replace HY := Lib.hid (HY.out.keep hb); clear y0 y1 y2 y3 yf0 yf1 yf2 yf3; replace HB := Lib.hid (bch' HB.out hb); clear hb; obtain ⟨k0, k1, k2, k3, kf0, kf1, kf2, kf3⟩ := HK.out.c4; obtain ⟨y0, y1, y2, y3, yf0, yf1, yf2, yf3⟩ := HY.out.c4) | (with_reducible refine ((HFL.out _ (ENV.out.below (bch' HBw.out HB.out)) (HndsAt.kept HV.out HB.out)).mono ?_); rintro e w' ⟨rfl, hb⟩; replace HK := Lib.hid (HK.out.keep hb); clear k0 k1 k2 k3 kf0 kf1 kf2 kf3; replace HY := Lib.hid (HY.out.keep hb); clear y0 y1 y2 y3 yf0 yf1 yf2 yf3; replace HB := Lib.hid (bch' HB.out hb); clear hb; obtain ⟨k0, k1, k2, k3, kf0, kf1, kf2, kf3⟩ := HK.out.c4; obtain ⟨y0, y1, y2, y3, yf0, yf1, yf2, yf3⟩ := HY.out.c4))
          have m0 := fun p : BelowOf _ => ((bch' HB.out p.h).cell (p := ⟨bm, om + i * 7, none⟩) HBM.out).trans (HCM.out 0 _ rfl)
          have m1 := fun p : BelowOf _ => ((bch' HB.out p.h).cell (p := ⟨bm, om + i * 7 + 1, none⟩) HBM.out).trans (HCM.out 1 _ rfl)
          have m2 := fun p : BelowOf _ => ((bch' HB.out p.h).cell (p := ⟨bm, om + i * 7 + 2, none⟩) HBM.out).trans (HCM.out 2 _ rfl)
          have m3 := fun p : BelowOf _ => ((bch' HB.out p.h).cell (p := ⟨bm, om + i * 7 + 3, none⟩) HBM.out).trans (HCM.out 3 _ rfl)
          have m4 := fun p : BelowOf _ => ((bch' HB.out p.h).cell (p := ⟨bm, om + i * 7 + 4, none⟩) HBM.out).trans (HCM.out 4 _ rfl)
          have m5 := fun p : BelowOf _ => ((bch' HB.out p.h).cell (p := ⟨bm, om + i * 7 + 5, none⟩) HBM.out).trans (HCM.out 5 _ rfl)
          have m6 := fun p : BelowOf _ => ((bch' HB.out p.h).cell (p := ⟨bm, om + i * 7 + 6, none⟩) HBM.out).trans (HCM.out 6 _ rfl)
          have zm := fun p : BelowOf _ => Nat.lt_of_lt_of_le HBM.out (bch' HB.out p.h).size
          have g0 := fun p : BelowOf _ => (HK.out.keep p.h).c4.1
          have g1 := fun p : BelowOf _ => (HK.out.keep p.h).c4.2.1
          refine wp_region_WQ (by kernel_rfl) (by kernel_rfl) ?_
          repeat (refine WQ.step (fun K hK => ?_); go_simp; first | (refine hK.out _ ?_; clear hK K) | (apply Exists.intro; refine ⟨fun _ => ?_, hK.out _ ?_⟩; (first | rfl | (go_at_call 14; exact calls_below_of _ (HL1.out _ (ENV.out.below (bch' HBw.out (bch' HB.out (BelowOf.h _))))))); clear hK K))
          refine WQ.nil ?_
          intro Wq hw'
          obtain ⟨⟨wq, hbq⟩, hw2⟩ := hw'
          subst hw2
          replace HK := Lib.hid (HK.out.keep hbq); replace HY := Lib.hid (HY.out.keep hbq); clear k0 k1 k2 k3 kf0 kf1 kf2 kf3; clear y0 y1 y2 y3 yf0 yf1 yf2 yf3
          replace HB := Lib.hid (bch' HB.out hbq)
          clear m0 m1 m2 m3 m4 m5 m6 zm g0 g1
          obtain ⟨k0, k1, k2, k3, kf0, kf1, kf2, kf3⟩ := HK.out.c4
          obtain ⟨y0, y1, y2, y3, yf0, yf1, yf2, yf3⟩ := HY.out.c4
          go_upto_region 14 with fail
          have m0 := fun p : BelowOf _ => ((bch' HB.out p.h).cell (p := ⟨bm, om + i * 7, none⟩) HBM.out).trans (HCM.out 0 _ rfl)
          have m1 := fun p : BelowOf _ => ((bch' HB.out p.h).cell (p := ⟨bm, om + i * 7 + 1, none⟩) HBM.out).trans (HCM.out 1 _ rfl)
          have m2 := fun p : BelowOf _ => ((bch' HB.out p.h).cell (p := ⟨bm, om + i * 7 + 2, none⟩) HBM.out).trans (HCM.out 2 _ rfl)
          have m3 := fun p : BelowOf _ => ((bch' HB.out p.h).cell (p := ⟨bm, om + i * 7 + 3, none⟩) HBM.out).trans (HCM.out 3 _ rfl)
          have m4 := fun p : BelowOf _ => ((bch' HB.out p.h).cell (p := ⟨bm, om + i * 7 + 4, none⟩) HBM.out).trans (HCM.out 4 _ rfl)
          have m5 := fun p : BelowOf _ => ((bch' HB.out p.h).cell (p := ⟨bm, om + i * 7 + 5, none⟩) HBM.out).trans (HCM.out 5 _ rfl)
          have m6 := fun p : BelowOf _ => ((bch' HB.out p.h).cell (p := ⟨bm, om + i * 7 + 6, none⟩) HBM.out).trans (HCM.out 6 _ rfl)
          have zm := fun p : BelowOf _ => Nat.lt_of_lt_of_le HBM.out (bch' HB.out p.h).size
          have g0 := fun p : BelowOf _ => (HK.out.keep p.h).c4.1
          have g1 := fun p : BelowOf _ => (HK.out.keep p.h).c4.2.1
          refine wp_region_WQ (by kernel_rfl) (by kernel_rfl) ?_
          repeat (refine WQ.step (fun K hK => ?_); go_simp; first | (refine hK.out _ ?_; clear hK K) | (apply Exists.intro; refine ⟨fun _ => ?_, hK.out _ ?_⟩; (first | rfl | (go_at_call 14; exact calls_below_of _ (HL2.out _ (ENV.out.below (bch' HBw.out (bch' HB.out (BelowOf.h _))))))); clear hK K))
          refine WQ.nil ?_
          intro Wq hw'
          obtain ⟨⟨wq, hbq⟩, hw2⟩ := hw'
          subst hw2
          replace HK := Lib.hid (HK.out.keep hbq); replace HY := Lib.hid (HY.out.keep hbq); clear k0 k1 k2 k3 kf0 kf1 kf2 kf3; clear y0 y1 y2 y3 yf0 yf1 yf2 yf3
          replace HB := Lib.hid (bch' HB.out hbq)
          clear m0 m1 m2 m3 m4 m5 m6 zm g0 g1
          obtain ⟨k0, k1, k2, k3, kf0, kf1, kf2, kf3⟩ := HK.out.c4
          obtain ⟨y0, y1, y2, y3, yf0, yf1, yf2, yf3⟩ := HY.out.c4
          go_upto_region 15 with fail
          have m0 := fun p : BelowOf _ => ((bch' HB.out p.h).cell (p := ⟨bm, om + i * 7, none⟩) HBM.out).trans (HCM.out 0 _ rfl)
          have m1 := fun p : BelowOf _ => ((bch' HB.out p.h).cell (p := ⟨bm, om + i * 7 + 1, none⟩) HBM.out).trans (HCM.out 1 _ rfl)
          have m2 := fun p : BelowOf _ => ((bch' HB.out p.h).cell (p := ⟨bm, om + i * 7 + 2, none⟩) HBM.out).trans (HCM.out 2 _ rfl)
          have m3 := fun p : BelowOf _ => ((bch' HB.out p.h).cell (p := ⟨bm, om + i * 7 + 3, none⟩) HBM.out).trans (HCM.out 3 _ rfl)
          have m4 := fun p : BelowOf _ => ((bch' HB.out p.h).cell (p := ⟨bm, om + i * 7 + 4, none⟩) HBM.out).trans (HCM.out 4 _ rfl)
          have m5 := fun p : BelowOf _ => ((bch' HB.out p.h).cell (p := ⟨bm, om + i * 7 + 5, none⟩) HBM.out).trans (HCM.out 5 _ rfl)
          have m6 := fun p : BelowOf _ => ((bch' HB.out p.h).cell (p := ⟨bm, om + i * 7 + 6, none⟩) HBM.out).trans (HCM.out 6 _ rfl)
          have zm := fun p : BelowOf _ => Nat.lt_of_lt_of_le HBM.out (bch' HB.out p.h).size
          have g0 := fun p : BelowOf _ => (HK.out.keep p.h).c4.1
          have g1 := fun p : BelowOf _ => (HK.out.keep p.h).c4.2.1
          refine wp_region_WQ (by kernel_rfl) (by kernel_rfl) ?_
          repeat (refine WQ.step (fun K hK => ?_); go_simp; first | (refine hK.out _ ?_; clear hK K) | (apply Exists.intro; refine ⟨fun _ => ?_, hK.out _ ?_⟩; (first | rfl | (go_at_call 14; exact calls_below_of _ (HL3.out _ (ENV.out.below (bch' HBw.out (bch' HB.out (BelowOf.h _))))))); clear hK K))
          refine WQ.nil ?_
          intro Wq hw'
          obtain ⟨⟨wq, hbq⟩, hw2⟩ := hw'
          subst hw2
          replace HK := Lib.hid (HK.out.keep hbq); replace HY := Lib.hid (HY.out.keep hbq); clear k0 k1 k2 k3 kf0 kf1 kf2 kf3; clear y0 y1 y2 y3 yf0 yf1 yf2 yf3
          replace HB := Lib.hid (bch' HB.out hbq)
          clear m0 m1 m2 m3 m4 m5 m6 zm g0 g1
          obtain ⟨k0, k1, k2, k3, kf0, kf1, kf2, kf3⟩ := HK.out.c4
          obtain ⟨y0, y1, y2, y3, yf0, yf1, yf2, yf3⟩ := HY.out.c4
          have a2 : Wq.cell? ⟨b2, o2 + k * 3 + 2, none⟩ = some (.string ⟨a.le.toArray⟩) := ((HB.out).cell (p := ⟨b2, o2 + k * 3 + 2, none⟩) HBA.out).trans (HCA.out 2 _ rfl)
          have hba : b2 < Wq.heap.size := Nat.lt_of_lt_of_le HBA.out HB.out.size
          go_upto_region 18 with (first | (with_reducible refine ((HCH.out _).mono ?_); rintro e w' ⟨rfl, hb⟩; replace HK := Lib.hid (HK.out.keep hb); clear k0 k1 k2 k3 kf0 kf1 kf2 kf3; replace HY := Lib.hid (HY.out.keep hb); clear y0 y1 y2 y3 yf0 yf1 yf2 yf3; replace HB := Lib.hid (bch' HB.out hb); clear hb; obtain ⟨k0, k1, k2, k3, kf0, kf1, kf2, kf3⟩ := HK.out.c4; obtain ⟨y0, y1, y2, y3, yf0, yf1, yf2, yf3⟩ := HY.out.c4))
          clear a2 hba
          have m0 := fun p : BelowOf _ => ((bch' HB.out p.h).cell (p := ⟨bm, om + i * 7, none⟩) HBM.out).trans (HCM.out 0 _ rfl)
          have m1 := fun p : BelowOf _ => ((bch' HB.out p.h).cell (p := ⟨bm, om + i * 7 + 1, none⟩) HBM.out).trans (HCM.out 1 _ rfl)
          have m2 := fun p : BelowOf _ => ((bch' HB.out p.h).cell (p := ⟨bm, om + i * 7 + 2, none⟩) HBM.out).trans (HCM.out 2 _ rfl)
          have m3 := fun p : BelowOf _ => ((bch' HB.out p.h).cell (p := ⟨bm, om + i * 7 + 3, none⟩) HBM.out).trans (HCM.out 3 _ rfl)
          have m4 := fun p : BelowOf _ => ((bch' HB.out p.h).cell (p := ⟨bm, om + i * 7 + 4, none⟩) HBM.out).trans (HCM.out 4 _ rfl)
          have m5 := fun p : BelowOf _ => ((bch' HB.out p.h).cell (p := ⟨bm, om + i * 7 + 5, none⟩) HBM.out).trans (HCM.out 5 _ rfl)
          have m6 := fun p : BelowOf _ => ((bch' HB.out p.h).cell (p := ⟨bm, om + i * 7 + 6, none⟩) HBM.out).trans (HCM.out 6 _ rfl)
          have zm := fun p : BelowOf _ => Nat.lt_of_lt_of_le HBM.out (bch' HB.out p.h).size
          refine wp_region_WQ (by kernel_rfl) (by kernel_rfl) ?_
          repeat (refine WQ.step (fun K hK => ?_); go_simp; first | (refine hK.out _ ?_; clear hK K) | (apply Exists.intro; refine ⟨fun _ => ?_, hK.out _ ?_⟩; (first | rfl | (go_at_call 30; exact calls_below_of _ (HLO.out _)) | (go_at_call 31; exact calls_below_of _ (HHI.out _))); clear hK K))
          refine WQ.nil ?_
          intro Wq hw'
          obtain ⟨⟨wq, hbq⟩, hw2⟩ := hw'
          subst hw2
          replace HK := Lib.hid (HK.out.keep hbq); replace HY := Lib.hid (HY.out.keep hbq); clear k0 k1 k2 k3 kf0 kf1 kf2 kf3; clear y0 y1 y2 y3 yf0 yf1 yf2 yf3
          replace HB := Lib.hid (bch' HB.out hbq)
          clear m0 m1 m2 m3 m4 m5 m6 zm
          obtain ⟨k0, k1, k2, k3, kf0, kf1, kf2, kf3⟩ := HK.out.c4
          obtain ⟨y0, y1, y2, y3, yf0, yf1, yf2, yf3⟩ := HY.out.c4
          go_wp2_with (first | (with_reducible refine ((HO1.out _).mono ?_); rintro e w' ⟨rfl, hb⟩; replace HK := Lib.hid (HK.out.keep hb); clear k0 k1 k2 k3 kf0 kf1 kf2 kf3; replace HY := Lib.hid (HY.out.keep hb); clear y0 y1 y2 y3 yf0 yf1 yf2 yf3; replace HB := Lib.hid (bch' HB.out hb); clear hb; obtain ⟨k0, k1, k2, k3, kf0, kf1, kf2, kf3⟩ := HK.out.c4; obtain ⟨y0, y1, y2, y3, yf0, yf1, yf2, yf3⟩ := HY.out.c4) | (with_reducible refine ((HO2.out _).mono ?_); rintro e w' ⟨rfl, hb⟩; replace HK := Lib.hid (HK.out.keep hb); clear k0 k1 k2 k3 kf0 kf1 kf2 kf3; replace HY := Lib.hid (HY.out.keep hb); clear y0 y1 y2 y3 yf0 yf1 yf2 yf3; replace HB := Lib.hid (bch' HB.out hb); clear hb; obtain ⟨k0, k1, k2, k3, kf0, kf1, kf2, kf3⟩ := HK.out.c4; obtain ⟨y0, y1, y2, y3, yf0, yf1, yf2, yf3⟩ := HY.out.c4))
          go_roundw
          case rel => exact ⟨k + 1, by first | rfl | simp, by omega, HB⟩
          case measure => first | (simp [intOf]; done) | (simp [intOf]; omega)
      · have hlt : ¬ (k : Int) < (es.length : Int) := by omega
        go_wp2_with (first | (with_reducible refine ((HAW.out _ (ENV.out.below (bch' HBw.out HB.out))).mono ?_); rintro e w' ⟨rfl, hb⟩; replace HK := Lib.hid (HK.out.keep hb); clear k0 k1 k2 k3 kf0 kf1 kf2 kf3; replace HB := Lib.hid (bch' HB.out hb); clear hb; obtain ⟨k0, k1, k2, k3, kf0, kf1, kf2, kf3⟩ := HK.out.c4))
        go_ret
        exact ⟨by first | rfl | simp, bch' HBw.out HB.out⟩
  · have hr : rgtB l t ti es now = false := by simpa using hr
    rw [hr] at hrg
    clear hr
    have HAW := Lib.hid haw; clear haw
    have HRG := Lib.hid hrg; clear hrg
    go_enter Tryz.func8, Tryz.ntmps8
    go_wp2_with (first | (with_reducible refine ((HRG.out _ HV.out HU.out HZ.out).mono ?_); rintro e w' ⟨rfl, hb⟩; replace HK := Lib.hid (HK.out.keep hb); clear k0 k1 k2 k3 kf0 kf1 kf2 kf3; replace HV := Lib.hid (HndsAt.kept HV.out hb); replace HU := Lib.hid (EntsAt.kept HU.out hb); replace HZ := Lib.hid (AmtsAt.kept HZ.out hb); replace HB := Lib.hid (bch' HB.out hb); clear hb; obtain ⟨k0, k1, k2, k3, kf0, kf1, kf2, kf3⟩ := HK.out.c4) | (with_reducible refine ((HAW.out _ (ENV.out.below HB.out)).mono ?_); rintro e w' ⟨rfl, hb⟩; replace HK := Lib.hid (HK.out.keep hb); clear k0 k1 k2 k3 kf0 kf1 kf2 kf3; replace HV := Lib.hid (HndsAt.kept HV.out hb); replace HU := Lib.hid (EntsAt.kept HU.out hb); replace HZ := Lib.hid (AmtsAt.kept HZ.out hb); replace HB := Lib.hid (bch' HB.out hb); clear hb; obtain ⟨k0, k1, k2, k3, kf0, kf1, kf2, kf3⟩ := HK.out.c4))
    go_ret
    exact ⟨rfl, HB.out⟩
end Go.Proofs.YtknlohmkachbmaaGreatDoor
