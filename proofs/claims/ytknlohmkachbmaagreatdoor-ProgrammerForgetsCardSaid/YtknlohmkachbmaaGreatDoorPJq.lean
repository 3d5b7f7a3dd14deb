/-
  Programmers: the law Forgets.
-/
import Derived.Test.YtknlohmkachbmaaGreatDoorPJq0
import Derived.Test.YtknlohmkachbmaaGreatDoorPJo
import Derived.Deep.RegionHeld3
set_option linter.unusedVariables false
set_option linter.unusedSimpArgs false
namespace Go.Proofs.YtknlohmkachbmaaGreatDoor
open Go.RowKit Go.Shelf Lum
open Go.Lib (decDigits itoa)
attribute [local go_sem] bs_get bs_extract_end bs_extract_from bs_extract bs_append

theorem info_pm : (Tryz.prog.info? 23).map (fun i => (i.zero, i.size, i.bytes)) = some (some (.agg #[.int .i64 0, .int .i64 0]), 2, 16) := by kernel_rfl
theorem info_am : (Tryz.prog.info? 63).map (fun i => (i.zero, i.size, i.bytes)) = some (some (.agg #[.int .i64 0, .int .i64 0, .string ⟨#[]⟩]), 3, 32) := by kernel_rfl
set_option maxRecDepth 100000 in
set_option maxHeartbeats 64000000 in
theorem law_pforgets (l : List Hnd) (v : Value) (t ti : Int) (es : List Ent) (now : List Amt) (p1 p2 : Option Addr) (c1 c2 : Nat) (w : World) (hv : HndsAt w v l) (hu : EntsAt w (.slice p1 es.length c1) es) (hz : AmtsAt w (.slice p2 now.length c2) now) (env : Env w) :
    Calls Tryz.prog 9 #[v, .agg #[.int .i64 t, .int .i64 ti, .slice p1 es.length c1, .slice p2 now.length c2]] w fun e w' => e = .returned (.bool (true)) ∧ Below w.heap.size w w' := by
  have ENV := Lib.hid env; clear env
  have hal := (Below.refl w.heap.size w).alloc (Nat.le_refl _) (.cells #[.int .i64 t, .int .i64 ti, .slice p1 es.length c1, .slice p2 now.length c2] 48)
  have HV0 := Lib.hid hv; have HU0 := Lib.hid hu; have HZ0 := Lib.hid hz
  have HV := Lib.hid (HndsAt.kept hv hal); have HU := Lib.hid (EntsAt.kept hu hal); have HZ := Lib.hid (AmtsAt.kept hz hal); have HB := Lib.hid hal; clear hal hv hu hz
  have HK := Lib.hid (Blk.new w 48 #[.int .i64 t, .int .i64 ti, .slice p1 es.length c1, .slice p2 now.length c2])
  obtain ⟨k0, k1, k2, k3, kf0, kf1, kf2, kf3⟩ := HK.out.c4
  have haw := fun W (e : Env W) => l29_awake W e
  have hrg := fun W (h1 : HndsAt W v l) (h2 : EntsAt W (.slice p1 es.length c1) es) (h3 : AmtsAt W (.slice p2 now.length c2) now) => l29_right l v t ti es now p1 p2 c1 c2 W h1 h2 h3
  by_cases hr : rgtB l t ti es now = true
  · obtain ⟨hf, hx, hc, hs⟩ := rgtB_parts hr
    have hS := setR_of hs
    obtain ⟨hx1, hx2, hx3⟩ := fewX_parts hx
    have hlsh := ((fewH_short hf).1 hS.hl.few).2
    have HSR := Lib.hid hS; have HEL : Hid (es.length ≤ 4096) := Lib.hid hS.he.few; have HE2 : Hid (es.length ≤ 200) := Lib.hid (by have := hS.he.few; omega); have HLL : Hid (l.length ≤ 256) := Lib.hid hS.hl.few; have HLE := Lib.hid hS.len; have HLR : Hid (hnsE l = 0) := Lib.hid hc; have HLS := Lib.hid (fewH_thou hf); have HSH := Lib.hid hlsh
    have HNS : Hid (∀ z ∈ es.zip now, z.2.le.length ≤ 60) := Lib.hid (fun z hz => hx3 _ (List.of_mem_zip (a := z.1) (b := z.2) (by exact hz)).2)
    rw [hr] at hrg
    clear hf hx hc hs hS hx1 hx2 hx3 hlsh hr
    have HAW := Lib.hid haw; clear haw
    have HRG := Lib.hid hrg; clear hrg
    obtain ⟨i5, hi5, hz5, hs5, hb5⟩ := info_one info_pm
    obtain ⟨i6, hi6, hz6, hs6, hb6⟩ := info_one info_en
    obtain ⟨i7, hi7, hz7, hs7, hb7⟩ := info_one info_am
    have HRV : Hid (∃ p c, v = .slice p l.length c) := Lib.hid (by obtain ⟨p, c, h, -⟩ := HV.out; exact ⟨p, c, h⟩)
    obtain ⟨pv, cv, rfl⟩ := HRV.out
    clear HRV
    go_enter Tryz.func9, Tryz.ntmps9
    go_upto_region 6 with (first | (with_reducible refine ((HRG.out _ HV.out HU.out HZ.out).mono ?_); rintro e w' ⟨rfl, hb⟩; replace HK := Lib.hid (HK.out.keep hb); clear k0 k1 k2 k3 kf0 kf1 kf2 kf3; replace HV := Lib.hid (HndsAt.kept HV.out hb); replace HU := Lib.hid (EntsAt.kept HU.out hb); replace HZ := Lib.hid (AmtsAt.kept HZ.out hb); replace HB := Lib.hid (bch' HB.out hb); clear hb; obtain ⟨k0, k1, k2, k3, kf0, kf1, kf2, kf3⟩ := HK.out.c4))
    obtain ⟨w2, hw2⟩ : ∃ X, X = w' := ⟨_, rfl⟩
    subst hw2
    have HBw := HB; clear HB
    have HB := Lib.hid (Below.refl (w.heap.size + 1) w2)
    have HWW : Hid ((w.heap.size + 1) ≤ w2.heap.size) := Lib.hid HK.out.lt
    have HW2 : Hid (w.heap.size ≤ w2.heap.size) := Lib.hid HBw.out.size
    have HEN : Hid (∀ W, Below (w.heap.size + 1) w2 W → Env W) := Lib.hid (fun W h => ENV.out.below (bch9 HBw.out h))
    have HVw : Hid (HndsAt w (.slice pv l.length cv) l) := HV0
    have HVN : Hid (∀ W, Below (w.heap.size + 1) w2 W → HndsAt W (.slice pv l.length cv) l) := Lib.hid (fun W h => HndsAt.kept HVw.out (bch9 HBw.out h))
    have HRE : Hid (RowX encEn 4 w p1 es) := Lib.hid (by obtain ⟨p, c, e9, h⟩ := HU0.out; injection e9 with e1 e2 e3; subst e1; exact h)
    have HRN : Hid (RowX encAm 3 w p2 now) := Lib.hid (by obtain ⟨p, c, e9, h⟩ := HZ0.out; injection e9 with e1 e2 e3; subst e1; exact h)
    have HK2 : Hid (w2.cell? ⟨w.heap.size, 3, none⟩ = some (.slice p2 now.length c2)) := Lib.hid k3
    clear HU HZ
    go_wp2_with fail
    go_loopw [5, 6, 7, 32] (fun s5 s6 s7 s32 wr => ∃ (k n : Nat) (p5 p6 p7 : Option Addr) (c5 c6 c7 : Nat), s5 = .slice p5 n c5 ∧ s6 = .slice p6 n c6 ∧ s7 = .slice p7 n c7 ∧ s32 = .int .i64 (k : Int) ∧ k ≤ es.length ∧ Hid (n = (newK l es now k).length) ∧ Hid (Below (w.heap.size + 1) w2 wr) ∧ Hid (OwnR encPm 2 (w.heap.size + 1) 23 wr p5 c5 ((newK l es now k).map (fun z : Ent × Amt => z.1.ky))) ∧ Hid (OwnR encEn 4 (w.heap.size + 1) 55 wr p6 c6 ((newK l es now k).map (·.1))) ∧ Hid (OwnR encAm 3 (w.heap.size + 1) 63 wr p7 c7 ((newK l es now k).map (·.2)))) (fun _ _ _ s _ => es.length - (intOf s).toNat)
    case atStart => exact ⟨0, 0, none, none, none, 0, 0, 0, rfl, rfl, rfl, rfl, Nat.zero_le _, Lib.hid rfl, HB, Lib.hid (OwnR.nil _ _ _), Lib.hid (OwnR.nil _ _ _), Lib.hid (OwnR.nil _ _ _)⟩
    case round =>
      obtain ⟨k, n, p5, p6, p7, c5, c6, c7, rfl, rfl, rfl, rfl, hk9, HN, HB2, HO5, HO6, HO7⟩ := hrel
      clear HB k0 k1 k2 k3 kf0 kf1 kf2 kf3
      have HB := HB2; clear HB2
      have HKr : Hid (Blk wr w.heap.size 48 #[.int .i64 t, .int .i64 ti, .slice p1 es.length c1, .slice p2 now.length c2]) := Lib.hid ((HB.out.block w.heap.size (Nat.lt_succ_self _)).trans HK.out)
      obtain ⟨k0, k1, k2, k3, kf0, kf1, kf2, kf3⟩ := HKr.out.c4
      by_cases hke : k < es.length
      · have hka : k < now.length := by have := HLE.out; omega
        have hlt : (k : Int) < (es.length : Int) := by omega
        have hlt2 : (k : Int) < (now.length : Int) := by omega
        have hk0 : (0 : Int) ≤ (k : Int) := by omega
        have hlo : k * 4 < 9223372036854775807 := by have := HEL.out; omega
        have hlo2 : k * 3 < 9223372036854775807 := by have := HEL.out; omega
        have hun : IntKind.i64.wrap ((k : Int) + 1) = (k : Int) + 1 := IntWalk.i64_in _ (by have := HEL.out; omega)
        obtain ⟨b1, o1, rfl, hb1, hC1⟩ := HRE.out (fun h => by subst h; exact absurd hke (Nat.not_lt_zero _))
        obtain ⟨b2, o2, rfl, hb2, hC2⟩ := HRN.out (fun h => by subst h; exact absurd hka (Nat.not_lt_zero _))
        obtain ⟨y, hy⟩ : ∃ y, y = es[k]'hke := ⟨_, rfl⟩
        obtain ⟨a, ha⟩ : ∃ a, a = now[k]'hka := ⟨_, rfl⟩
        have hc1 := hC1 k hke
        have hc2 := hC2 k hka
        rw [← hy] at hc1
        rw [← ha] at hc2
        have hfl := fun W (e : Env W) (h : HndsAt W (.slice pv l.length cv) l) => own_pfind l (.slice pv l.length cv) y.ch y.at_ W h HLS.out e
        rw [finT_ok HLR.out] at hfl
        dsimp only at hfl
        generalize finI l (y.ch, y.at_) = zf at *
        have hyes := fun h => newK_yes (l := l) hke hka h
        have hno := fun h => newK_no (l := l) hke hka h
        rw [← hy] at hyes hno
        rw [← ha] at hyes
        have y0 : wr.cell? ⟨b1, o1 + k * 4, none⟩ = some (.int .i64 (y.ch)) := (HB.out.cell (p := ⟨b1, o1 + k * 4 + 0, none⟩) (Nat.lt_succ_of_lt hb1)).trans ((HBw.out.cell (p := ⟨b1, o1 + k * 4 + 0, none⟩) hb1).trans (hc1 0 _ rfl))
        have y1 : wr.cell? ⟨b1, o1 + k * 4 + 1, none⟩ = some (.int .i64 (y.at_)) := (HB.out.cell (p := ⟨b1, o1 + k * 4 + 1, none⟩) (Nat.lt_succ_of_lt hb1)).trans ((HBw.out.cell (p := ⟨b1, o1 + k * 4 + 1, none⟩) hb1).trans (hc1 1 _ rfl))
        have y2 : wr.cell? ⟨b1, o1 + k * 4 + 2, none⟩ = some (.int .i64 (y.pa)) := (HB.out.cell (p := ⟨b1, o1 + k * 4 + 2, none⟩) (Nat.lt_succ_of_lt hb1)).trans ((HBw.out.cell (p := ⟨b1, o1 + k * 4 + 2, none⟩) hb1).trans (hc1 2 _ rfl))
        have y3 : wr.cell? ⟨b1, o1 + k * 4 + 3, none⟩ = some (.int .i64 (y.lv)) := (HB.out.cell (p := ⟨b1, o1 + k * 4 + 3, none⟩) (Nat.lt_succ_of_lt hb1)).trans ((HBw.out.cell (p := ⟨b1, o1 + k * 4 + 3, none⟩) hb1).trans (hc1 3 _ rfl))
        have hbr : b1 < wr.heap.size := Nat.lt_of_lt_of_le hb1 (Nat.le_trans (Nat.le_succ _) (Nat.le_trans HWW.out HB.out.size))
        have HCA := Lib.hid hc2; have HBA := Lib.hid hb2
        clear hc1 hc2 hb1 hb2 hC1 hC2 hy ha
        go_upto_region 9 with fail
        clear y0 y1 y2 y3 hbr
        have hb := (Below.refl wr.heap.size wr).alloc (Nat.le_refl _) (.cells #[.int .i64 (y.ch), .int .i64 (y.at_), .int .i64 (y.pa), .int .i64 (y.lv)] 55)
        have HY := Lib.hid (Blk.new wr 55 #[.int .i64 (y.ch), .int .i64 (y.at_), .int .i64 (y.pa), .int .i64 (y.lv)])
        have HP5 : Hid (∀ ad, p5 = some ad → ad.block ≠ wr.heap.size) := Lib.hid (fun ad h => by have := (HO5.out.lt ad h).2; omega)
        have HP6 : Hid (∀ ad, p6 = some ad → ad.block ≠ wr.heap.size) := Lib.hid (fun ad h => by have := (HO6.out.lt ad h).2; omega)
        have HP7 : Hid (∀ ad, p7 = some ad → ad.block ≠ wr.heap.size) := Lib.hid (fun ad h => by have := (HO7.out.lt ad h).2; omega)
        have HQ5 : Hid (∀ ad, p5 = some ad → ad.block < wr.heap.size) := Lib.hid (fun ad h => (HO5.out.lt ad h).2)
        have HQ6 : Hid (∀ ad, p6 = some ad → ad.block < wr.heap.size) := Lib.hid (fun ad h => (HO6.out.lt ad h).2)
        have HQ7 : Hid (∀ ad, p7 = some ad → ad.block < wr.heap.size) := Lib.hid (fun ad h => (HO7.out.lt ad h).2)
        have hszr : (w.heap.size + 1) ≤ wr.heap.size := by have := HB.out.size; have := HWW.out; omega
        obtain ⟨n8, hn8⟩ : ∃ n, n = wr.heap.size := ⟨_, rfl⟩
        obtain ⟨W9, hW9⟩ : ∃ X, X = wr.alloc (.cells #[.int .i64 (y.ch), .int .i64 (y.at_), .int .i64 (y.pa), .int .i64 (y.lv)] 55) := ⟨_, rfl⟩
        rw [← hn8] at HY HP5 HP6 HP7 HQ5 HQ6 HQ7 hszr ⊢
        rw [← hW9] at hb HY ⊢
        replace HB := Lib.hid (HB.out.trans (hb.mono (by have := HB.out.size; have := HWW.out; omega)))
        replace HO5 := Lib.hid (HO5.out.keep hb); replace HO6 := Lib.hid (HO6.out.keep hb); replace HO7 := Lib.hid (HO7.out.keep hb)
        have HN8 : Hid ((w.heap.size + 1) ≤ n8 ∧ n8 < W9.heap.size) := Lib.hid ⟨hszr, HY.out.lt⟩
        clear hW9 hn8 hb hszr
        obtain ⟨y0, y1, y2, y3, yf0, yf1, yf2, yf3⟩ := HY.out.c4
        cases hfb : finB l (y.ch, y.at_) with
        | true =>
          rw [hfb] at hfl
          have HT := Lib.hid (hno hfb)
          clear hyes hno
          have HFL := Lib.hid hfl; clear hfl
          skip
          go_wp2_with (first | (with_reducible refine ((HFL.out _ (HEN.out _ HB.out) (HVN.out _ HB.out)).mono ?_); rintro e Wa ⟨rfl, hb⟩; replace HY := Lib.hid (HY.out.keep hb); clear y0 y1 y2 y3 yf0 yf1 yf2 yf3; replace HO5 := Lib.hid (HO5.out.keep hb); replace HO6 := Lib.hid (HO6.out.keep hb); replace HO7 := Lib.hid (HO7.out.keep hb); replace HB := Lib.hid (HB.out.trans (hb.mono (Nat.le_trans HWW.out HB.out.size))); clear hb; obtain ⟨y0, y1, y2, y3, yf0, yf1, yf2, yf3⟩ := HY.out.c4))
          go_roundw
          case rel => exact ⟨k + 1, n, p5, p6, p7, c5, c6, c7, rfl, rfl, rfl, by first | rfl | simp, by omega, Lib.hid (by rw [HT.out]; exact HN.out), HB, Lib.hid (by rw [HT.out]; exact HO5.out), Lib.hid (by rw [HT.out]; exact HO6.out), Lib.hid (by rw [HT.out]; exact HO7.out)⟩
          case measure => first | (simp [intOf]; done) | (simp [intOf]; omega)
        | false =>
          rw [hfb] at hfl
          have HT := Lib.hid (hyes hfb)
          clear hyes hno
          have HFL := Lib.hid hfl; clear hfl
          go_upto_region 11 with (first | (with_reducible refine ((HFL.out _ (HEN.out _ HB.out) (HVN.out _ HB.out)).mono ?_); rintro e Wa ⟨rfl, hb⟩; replace HY := Lib.hid (HY.out.keep hb); clear y0 y1 y2 y3 yf0 yf1 yf2 yf3; replace HO5 := Lib.hid (HO5.out.keep hb); replace HO6 := Lib.hid (HO6.out.keep hb); replace HO7 := Lib.hid (HO7.out.keep hb); replace HB := Lib.hid (HB.out.trans (hb.mono (Nat.le_trans HWW.out HB.out.size))); clear hb; obtain ⟨y0, y1, y2, y3, yf0, yf1, yf2, yf3⟩ := HY.out.c4))
          obtain ⟨NQ, hNQ⟩ : ∃ N, N = Wa.heap.size := ⟨_, rfl⟩
          have HNQ : Hid (n8 < NQ) := Lib.hid (by rw [hNQ]; exact HY.out.lt)
          obtain ⟨SS, hSS⟩ : ∃ SS : World → Prop, ∀ W', SS W' ↔ (Below (w.heap.size + 1) w2 W' ∧ Blk W' n8 55 #[.int .i64 (y.ch), .int .i64 (y.at_), .int .i64 (y.pa), .int .i64 (y.lv)] ∧ NQ ≤ W'.heap.size) := ⟨fun W' => Below (w.heap.size + 1) w2 W' ∧ Blk W' n8 55 #[.int .i64 (y.ch), .int .i64 (y.at_), .int .i64 (y.pa), .int .i64 (y.lv)] ∧ NQ ≤ W'.heap.size, fun _ => Iff.rfl⟩
          have HBO : Hid (∀ W', SS W' → (W'.cell? ⟨n8, 0, none⟩ = some (.int .i64 (y.ch)) ∧ W'.cell? ⟨n8, 1, none⟩ = some (.int .i64 (y.at_)) ∧ W'.cell? ⟨n8, 2, none⟩ = some (.int .i64 (y.pa)) ∧ W'.cell? ⟨n8, 3, none⟩ = some (.int .i64 (y.lv)) ∧ W'.cell? ⟨w.heap.size, 3, none⟩ = some (.slice (some ⟨b2, o2, none⟩) now.length c2) ∧ W'.cell? ⟨b2, o2 + k * 3, none⟩ = some (.int .i64 (a.ch)) ∧ W'.cell? ⟨b2, o2 + k * 3 + 1, none⟩ = some (.int .i64 (a.at_)) ∧ W'.cell? ⟨b2, o2 + k * 3 + 2, none⟩ = some (.string ⟨a.le.toArray⟩) ∧ b2 < W'.heap.size ∧ n8 < W'.heap.size ∧ w.heap.size < W'.heap.size ∧ SS W')) := Lib.hid fun W' hs => by obtain ⟨g1, g2, g3⟩ := (hSS W').1 hs; exact ⟨g2.c4.1, g2.c4.2.1, g2.c4.2.2.1, g2.c4.2.2.2.1, (g1.cell (p := ⟨w.heap.size, 3, none⟩) (Nat.lt_succ_self _)).trans HK2.out, (g1.cell (p := ⟨b2, o2 + k * 3 + 0, none⟩) (Nat.lt_trans HBA.out (Nat.lt_succ_self _))).trans ((HBw.out.cell (p := ⟨b2, o2 + k * 3 + 0, none⟩) HBA.out).trans (HCA.out 0 _ rfl)), (g1.cell (p := ⟨b2, o2 + k * 3 + 1, none⟩) (Nat.lt_trans HBA.out (Nat.lt_succ_self _))).trans ((HBw.out.cell (p := ⟨b2, o2 + k * 3 + 1, none⟩) HBA.out).trans (HCA.out 1 _ rfl)), (g1.cell (p := ⟨b2, o2 + k * 3 + 2, none⟩) (Nat.lt_trans HBA.out (Nat.lt_succ_self _))).trans ((HBw.out.cell (p := ⟨b2, o2 + k * 3 + 2, none⟩) HBA.out).trans (HCA.out 2 _ rfl)), Nat.lt_of_lt_of_le HBA.out (Nat.le_trans HW2.out g1.size), g2.lt, Nat.lt_of_lt_of_le HWW.out g1.size, hs⟩
          have HS1 : Hid (SS Wa) := Lib.hid ((hSS _).2 ⟨HB.out, HY.out, by omega⟩)
          have HKA : Hid (∀ A c, SS A → SS (A.alloc c)) := Lib.hid fun A c hs => by obtain ⟨g1, g2, g3⟩ := (hSS A).1 hs; exact (hSS _).2 ⟨g1.alloc (by have := g1.size; have := HWW.out; omega) _, g2.alloc _, by rw [World.size_alloc]; omega⟩
          have HKD : Hid (∀ A, SS A → SS A.drew) := Lib.hid fun A hs => by obtain ⟨g1, g2, g3⟩ := (hSS A).1 hs; exact (hSS _).2 ⟨g1.drew, g2.drew, g3⟩
          have HK5 : Hid (∀ A B, SS A → KeepN p5 A B → Below (w.heap.size + 1) A B → SS B) := Lib.hid fun A B hs hn hb => by obtain ⟨g1, g2, g3⟩ := (hSS A).1 hs; exact (hSS _).2 ⟨g1.trans hb, hn _ _ _ (HP5.out) g2, Nat.le_trans g3 hb.size⟩
          have HK6 : Hid (∀ A B, SS A → KeepN p6 A B → Below (w.heap.size + 1) A B → SS B) := Lib.hid fun A B hs hn hb => by obtain ⟨g1, g2, g3⟩ := (hSS A).1 hs; exact (hSS _).2 ⟨g1.trans hb, hn _ _ _ (HP6.out) g2, Nat.le_trans g3 hb.size⟩
          have HK7 : Hid (∀ A B, SS A → KeepN p7 A B → Below (w.heap.size + 1) A B → SS B) := Lib.hid fun A B hs hn hb => by obtain ⟨g1, g2, g3⟩ := (hSS A).1 hs; exact (hSS _).2 ⟨g1.trans hb, hn _ _ _ (HP7.out) g2, Nat.le_trans g3 hb.size⟩
          have HSZ : Hid (∀ A, SS A → (w.heap.size + 1) ≤ A.heap.size) := Lib.hid fun A hs => by obtain ⟨g1, g2, g3⟩ := (hSS A).1 hs; have := g1.size; have := HWW.out; omega
          have HFI : Hid (∀ A, SS A → Below (w.heap.size + 1) w2 A) := Lib.hid fun A hs => ((hSS A).1 hs).1
          have HNEW : Hid (∀ A (T : TypeId) (cs : Array Value), SS A → BlkN NQ (A.alloc (.cells cs T)) A.heap.size T cs) := Lib.hid fun A T cs hs => ⟨((hSS A).1 hs).2.2, Blk.new A T cs⟩
          have HNE : Hid (∀ A (T : TypeId) (cs : Array Value) (n : Nat), n = A.heap.size → SS A → BlkN NQ (A.alloc (.cells cs T)) n T cs) := Lib.hid fun A T cs n e hs => by subst e; exact ⟨((hSS A).1 hs).2.2, Blk.new A T cs⟩
          have HNA : Hid (∀ A (o : Obj) n T cs, BlkN NQ A n T cs → BlkN NQ (A.alloc o) n T cs) := Lib.hid fun A o n T cs h => ⟨h.1, h.2.alloc _⟩
          have HND : Hid (∀ A n T cs, BlkN NQ A n T cs → BlkN NQ A.drew n T cs) := Lib.hid fun A n T cs h => ⟨h.1, h.2.drew⟩
          have HN5 : Hid (∀ A B n T cs, BlkN NQ A n T cs → KeepN p5 A B → BlkN NQ B n T cs) := Lib.hid fun A B n T cs h hn => ⟨h.1, hn _ _ _ (fun a ha e => by have h1 := HQ5.out a ha; have h2 := h.1; have h3 := HNQ.out; omega) h.2⟩
          have HN6 : Hid (∀ A B n T cs, BlkN NQ A n T cs → KeepN p6 A B → BlkN NQ B n T cs) := Lib.hid fun A B n T cs h hn => ⟨h.1, hn _ _ _ (fun a ha e => by have h1 := HQ6.out a ha; have h2 := h.1; have h3 := HNQ.out; omega) h.2⟩
          have HN7 : Hid (∀ A B n T cs, BlkN NQ A n T cs → KeepN p7 A B → BlkN NQ B n T cs) := Lib.hid fun A B n T cs h hn => ⟨h.1, hn _ _ _ (fun a ha e => by have h1 := HQ7.out a ha; have h2 := h.1; have h3 := HNQ.out; omega) h.2⟩
          have HLN : Hid (∀ L : Nat, L ≤ (newK l es now k).length → L ≤ 1000000) := Lib.hid fun L h => by have := newK_len l es now k; have := HEL.out; omega
          clear hSS hNQ
          have hn0 := HN8.out.2
          clear y0 y1 y2 y3 yf0 yf1 yf2 yf3
          go_region_held3 (fun W' => W'.cell? ⟨n8, 0, none⟩ = some (.int .i64 (y.ch)) ∧ W'.cell? ⟨n8, 1, none⟩ = some (.int .i64 (y.at_)) ∧ W'.cell? ⟨n8, 2, none⟩ = some (.int .i64 (y.pa)) ∧ W'.cell? ⟨n8, 3, none⟩ = some (.int .i64 (y.lv)) ∧ W'.cell? ⟨w.heap.size, 3, none⟩ = some (.slice (some ⟨b2, o2, none⟩) now.length c2) ∧ W'.cell? ⟨b2, o2 + k * 3, none⟩ = some (.int .i64 (a.ch)) ∧ W'.cell? ⟨b2, o2 + k * 3 + 1, none⟩ = some (.int .i64 (a.at_)) ∧ W'.cell? ⟨b2, o2 + k * 3 + 2, none⟩ = some (.string ⟨a.le.toArray⟩) ∧ b2 < W'.heap.size ∧ n8 < W'.heap.size ∧ w.heap.size < W'.heap.size ∧ SS W') (with_reducible refine HBO.out _ ?_; ((repeat (first | with_reducible refine HKA.out _ _ ?_ | with_reducible refine HKD.out _ ?_ | with_reducible refine HK5.out _ _ ?_ n51 b51 | with_reducible refine HK6.out _ _ ?_ n61 b61 | with_reducible refine HK7.out _ _ ?_ n71 b71)); with_reducible exact HS1.out)) (first | (refine step_appK3 (enc := encPm) (cs := #[.int .i64 (y.ch), .int .i64 (y.at_)]) (NQ := NQ) (by rfl) _ _ 38 (by rfl) (w.heap.size + 1) 23 i5 (.agg #[.int .i64 0, .int .i64 0]) 16 Tryz.underlying38 hi5 hz5 hs5 hb5 rfl (by decide) (by decide) encPm_len encPm_one p5 c5 ((newK l es now k).map (fun z : Ent × Amt => z.1.ky)) n (HN.out.trans (List.length_map _).symm) _ ((y.ch, y.at_)) _ (by rfl) (by rfl) (by (repeat (first | ((with_reducible refine HNEW.out _ _ _ ?_); ((repeat (first | with_reducible refine HKA.out _ _ ?_ | with_reducible refine HKD.out _ ?_ | with_reducible refine HK5.out _ _ ?_ n51 b51 | with_reducible refine HK6.out _ _ ?_ n61 b61 | with_reducible refine HK7.out _ _ ?_ n71 b71)); with_reducible exact HS1.out)) | ((with_reducible refine HNE.out _ _ _ _ ?_ ?_); (focus (first | (simp only [World.size_drew, World.size_alloc]; done) | (simp only [World.size_drew, World.size_alloc, Nat.add_assoc, Nat.reduceAdd]; done))); ((repeat (first | with_reducible refine HKA.out _ _ ?_ | with_reducible refine HKD.out _ ?_ | with_reducible refine HK5.out _ _ ?_ n51 b51 | with_reducible refine HK6.out _ _ ?_ n61 b61 | with_reducible refine HK7.out _ _ ?_ n71 b71)); with_reducible exact HS1.out)) | with_reducible refine HNA.out _ _ _ _ _ ?_ | with_reducible refine HND.out _ _ _ _ ?_ | with_reducible refine HN5.out _ _ _ _ _ ?_ n51 | with_reducible refine HN6.out _ _ _ _ _ ?_ n61 | with_reducible refine HN7.out _ _ _ _ _ ?_ n71))) (by rfl) (by ((repeat (first | with_reducible refine OwnR.al _ ?_ | with_reducible refine OwnR.dr ?_ | with_reducible refine KeepT.use k51 (by decide) ?_ | with_reducible refine KeepT.use k61 (by decide) ?_ | with_reducible refine KeepT.use k71 (by decide) ?_)); first | with_reducible exact HO5.out | exact HO5.out)) (HLN.out _ (by rw [List.length_map]; exact Nat.le_refl _)) (HSZ.out _ (by ((repeat (first | with_reducible refine HKA.out _ _ ?_ | with_reducible refine HKD.out _ ?_ | with_reducible refine HK5.out _ _ ?_ n51 b51 | with_reducible refine HK6.out _ _ ?_ n61 b61 | with_reducible refine HK7.out _ _ ?_ n71 b71)); with_reducible exact HS1.out))) ?_; intro q5 d5 w51 h51 b51 k51 n51) | (refine step_appK3 (enc := encEn) (cs := #[.int .i64 (y.ch), .int .i64 (y.at_), .int .i64 (y.pa), .int .i64 (y.lv)]) (NQ := NQ) (by rfl) _ _ 45 (by rfl) (w.heap.size + 1) 55 i6 (.agg #[.int .i64 0, .int .i64 0, .int .i64 0, .int .i64 0]) 32 Tryz.underlying45 hi6 hz6 hs6 hb6 rfl (by decide) (by decide) encEn_len encEn_one p6 c6 ((newK l es now k).map (·.1)) n (HN.out.trans (List.length_map _).symm) _ (y) _ (by rfl) (by rfl) (by (repeat (first | ((with_reducible refine HNEW.out _ _ _ ?_); ((repeat (first | with_reducible refine HKA.out _ _ ?_ | with_reducible refine HKD.out _ ?_ | with_reducible refine HK5.out _ _ ?_ n51 b51 | with_reducible refine HK6.out _ _ ?_ n61 b61 | with_reducible refine HK7.out _ _ ?_ n71 b71)); with_reducible exact HS1.out)) | ((with_reducible refine HNE.out _ _ _ _ ?_ ?_); (focus (first | (simp only [World.size_drew, World.size_alloc]; done) | (simp only [World.size_drew, World.size_alloc, Nat.add_assoc, Nat.reduceAdd]; done))); ((repeat (first | with_reducible refine HKA.out _ _ ?_ | with_reducible refine HKD.out _ ?_ | with_reducible refine HK5.out _ _ ?_ n51 b51 | with_reducible refine HK6.out _ _ ?_ n61 b61 | with_reducible refine HK7.out _ _ ?_ n71 b71)); with_reducible exact HS1.out)) | with_reducible refine HNA.out _ _ _ _ _ ?_ | with_reducible refine HND.out _ _ _ _ ?_ | with_reducible refine HN5.out _ _ _ _ _ ?_ n51 | with_reducible refine HN6.out _ _ _ _ _ ?_ n61 | with_reducible refine HN7.out _ _ _ _ _ ?_ n71))) (by rfl) (by ((repeat (first | with_reducible refine OwnR.al _ ?_ | with_reducible refine OwnR.dr ?_ | with_reducible refine KeepT.use k51 (by decide) ?_ | with_reducible refine KeepT.use k61 (by decide) ?_ | with_reducible refine KeepT.use k71 (by decide) ?_)); first | with_reducible exact HO6.out | exact HO6.out)) (HLN.out _ (by rw [List.length_map]; exact Nat.le_refl _)) (HSZ.out _ (by ((repeat (first | with_reducible refine HKA.out _ _ ?_ | with_reducible refine HKD.out _ ?_ | with_reducible refine HK5.out _ _ ?_ n51 b51 | with_reducible refine HK6.out _ _ ?_ n61 b61 | with_reducible refine HK7.out _ _ ?_ n71 b71)); with_reducible exact HS1.out))) ?_; intro q6 d6 w61 h61 b61 k61 n61) | (refine step_appK3 (enc := encAm) (cs := #[.int .i64 (a.ch), .int .i64 (a.at_), .string ⟨a.le.toArray⟩]) (NQ := NQ) (by rfl) _ _ 46 (by rfl) (w.heap.size + 1) 63 i7 (.agg #[.int .i64 0, .int .i64 0, .string ⟨#[]⟩]) 32 Tryz.underlying46 hi7 hz7 hs7 hb7 rfl (by decide) (by decide) encAm_len encAm_one p7 c7 ((newK l es now k).map (·.2)) n (HN.out.trans (List.length_map _).symm) _ (a) _ (by rfl) (by rfl) (by (repeat (first | ((with_reducible refine HNEW.out _ _ _ ?_); ((repeat (first | with_reducible refine HKA.out _ _ ?_ | with_reducible refine HKD.out _ ?_ | with_reducible refine HK5.out _ _ ?_ n51 b51 | with_reducible refine HK6.out _ _ ?_ n61 b61 | with_reducible refine HK7.out _ _ ?_ n71 b71)); with_reducible exact HS1.out)) | ((with_reducible refine HNE.out _ _ _ _ ?_ ?_); (focus (first | (simp only [World.size_drew, World.size_alloc]; done) | (simp only [World.size_drew, World.size_alloc, Nat.add_assoc, Nat.reduceAdd]; done))); ((repeat (first | with_reducible refine HKA.out _ _ ?_ | with_reducible refine HKD.out _ ?_ | with_reducible refine HK5.out _ _ ?_ n51 b51 | with_reducible refine HK6.out _ _ ?_ n61 b61 | with_reducible refine HK7.out _ _ ?_ n71 b71)); with_reducible exact HS1.out)) | with_reducible refine HNA.out _ _ _ _ _ ?_ | with_reducible refine HND.out _ _ _ _ ?_ | with_reducible refine HN5.out _ _ _ _ _ ?_ n51 | with_reducible refine HN6.out _ _ _ _ _ ?_ n61 | with_reducible refine HN7.out _ _ _ _ _ ?_ n71))) (by rfl) (by ((repeat (first | with_reducible refine OwnR.al _ ?_ | with_reducible refine OwnR.dr ?_ | with_reducible refine KeepT.use k51 (by decide) ?_ | with_reducible refine KeepT.use k61 (by decide) ?_ | with_reducible refine KeepT.use k71 (by decide) ?_)); first | with_reducible exact HO7.out | exact HO7.out)) (HLN.out _ (by rw [List.length_map]; exact Nat.le_refl _)) (HSZ.out _ (by ((repeat (first | with_reducible refine HKA.out _ _ ?_ | with_reducible refine HKD.out _ ?_ | with_reducible refine HK5.out _ _ ?_ n51 b51 | with_reducible refine HK6.out _ _ ?_ n61 b61 | with_reducible refine HK7.out _ _ ?_ n71 b71)); with_reducible exact HS1.out))) ?_; intro q7 d7 w71 h71 b71 k71 n71))
          all_goals (go_wp2_with fail; go_roundw)
          skip
          all_goals first | (simp [intOf]; done) | (simp [intOf, hun]; omega) | exact ⟨k + 1, n + 1, q5, q6, q7, d5, d6, d7, by first | rfl | simp, by first | rfl | simp, by first | rfl | simp, by first | rfl | simp, by omega, Lib.hid (by rw [HT.out, List.length_append, ← HN.out]; rfl), Lib.hid (HFI.out _ (by ((repeat (first | with_reducible refine HKA.out _ _ ?_ | with_reducible refine HKD.out _ ?_ | with_reducible refine HK5.out _ _ ?_ n51 b51 | with_reducible refine HK6.out _ _ ?_ n61 b61 | with_reducible refine HK7.out _ _ ?_ n71 b71)); with_reducible exact HS1.out))), Lib.hid (by rw [HT.out, List.map_append]; ((repeat (first | with_reducible refine OwnR.al _ ?_ | with_reducible refine OwnR.dr ?_ | with_reducible refine KeepT.use k51 (by decide) ?_ | with_reducible refine KeepT.use k61 (by decide) ?_ | with_reducible refine KeepT.use k71 (by decide) ?_)); first | with_reducible exact h51 | exact h51)), Lib.hid (by rw [HT.out, List.map_append]; ((repeat (first | with_reducible refine OwnR.al _ ?_ | with_reducible refine OwnR.dr ?_ | with_reducible refine KeepT.use k51 (by decide) ?_ | with_reducible refine KeepT.use k61 (by decide) ?_ | with_reducible refine KeepT.use k71 (by decide) ?_)); first | with_reducible exact h61 | exact h61)), Lib.hid (by rw [HT.out, List.map_append]; ((repeat (first | with_reducible refine OwnR.al _ ?_ | with_reducible refine OwnR.dr ?_ | with_reducible refine KeepT.use k51 (by decide) ?_ | with_reducible refine KeepT.use k61 (by decide) ?_ | with_reducible refine KeepT.use k71 (by decide) ?_)); first | with_reducible exact h71 | exact h71))⟩
      · have hlt : ¬ (k : Int) < (es.length : Int) := by omega
        obtain rfl : k = es.length := by omega
        have HTA := Lib.hid (newK_all (l := l) HLE.out)
        rw [HTA.out] at HN HO5 HO6 HO7
        have HZL : Hid (n ≤ 200) := Lib.hid (by have h1 := newK_len l es now es.length; rw [HTA.out, ← HN.out] at h1; have := HE2.out; omega)
        by_cases hn0 : n = 0
        · have heq : ((n : Int) == 0) = true := by rw [beq_iff_eq]; omega
          go_wp2_with (first | (with_reducible refine ((HAW.out _ (HEN.out _ HB.out)).mono ?_); rintro e w9 ⟨rfl, hb⟩; replace HB := Lib.hid (HB.out.trans (hb.mono (Nat.le_trans HWW.out HB.out.size))); clear hb))
          go_ret
          exact ⟨rfl, bch9 HBw.out HB.out⟩
        · have HZL2 : Hid ((newZ l es now).length ≤ 200) := Lib.hid (by rw [← HN.out]; exact HZL.out)
          have hZ0 : 0 < (newZ l es now).length := by have := HN.out; omega
          have heq : ((n : Int) == 0) = false := by rw [beq_eq_false_iff_ne]; omega
          have HB' : Hid (Below w.heap.size w wr) := Lib.hid (bch9 HBw.out HB.out)
          have HV' : Hid (HndsAt wr (.slice pv l.length cv) l) := Lib.hid (HVN.out _ HB.out)
          have HKr : Hid (Blk wr w.heap.size 48 #[.int .i64 t, .int .i64 ti, .slice p1 es.length c1, .slice p2 now.length c2]) := Lib.hid ((HB.out.block w.heap.size (Nat.lt_succ_self _)).trans HK.out)
          have HRF : Hid (RowX encPm 2 wr p5 ((newZ l es now).map (fun z : Ent × Amt => z.1.ky))) := Lib.hid (HO5.out.row encPm_len)
          have HF : Hid (PmsAt wr (.slice p5 n c5) ((newZ l es now).map (fun z : Ent × Amt => z.1.ky))) := Lib.hid (by have h := HO5.out.row encPm_len; exact ⟨p5, c5, by rw [List.length_map, ← HN.out], h⟩)
          have HU6 : Hid (EntsAt wr (.slice p6 n c6) ((newZ l es now).map (·.1))) := Lib.hid (by have h := HO6.out.row encEn_len; exact ⟨p6, c6, by rw [List.length_map, ← HN.out], h⟩)
          have HZ7 : Hid (AmtsAt wr (.slice p7 n c7) ((newZ l es now).map (·.2))) := Lib.hid (by have h := HO7.out.row encAm_len; exact ⟨p7, c7, by rw [List.length_map, ← HN.out], h⟩)
          clear HB HV HK HO5 HO6 HO7 HVN HEN k0 k1 k2 k3 kf0 kf1 kf2 kf3
          have HB := HB'; have HV := HV'; have HK := HKr; clear HB' HV' HKr
          obtain ⟨k0, k1, k2, k3, kf0, kf1, kf2, kf3⟩ := HK.out.c4
          have HWR := Lib.hid (Nat.le_refl wr.heap.size)
          obtain ⟨hln, hcl⟩ := HSR.out.back
          rw [if_pos hZ0] at hcl
          have hS2 := setR_of HSR.out.new
          have hs2 := HSR.out.new
          have hM2 := hS2.right
          have hMs := hS2.short HSH.out (fun y hy => by obtain ⟨z, hz, rfl⟩ := List.mem_map.1 hy; exact HNS.out z (newZ_sub.subset hz))
          have hst := fun W u z (e : Env W) (h1 : HndsAt W (.slice pv l.length cv) l) (h2 : EntsAt W u ((newZ l es now).map (·.1))) (h3 : AmtsAt W z ((newZ l es now).map (·.2))) => own_pset l t ((newZ l es now).map (·.1)) ti ((newZ l es now).map (·.2)) (.slice pv l.length cv) u z W h1 h2 h3 HLS.out (by rw [List.length_map]; have := HZL2.out; omega) (fun y hy => by obtain ⟨z, hz, rfl⟩ := List.mem_map.1 hy; have := HNS.out z (newZ_sub.subset hz); omega) e
          rw [show setO l t ((newZ l es now).map (·.1)) ti ((newZ l es now).map (·.2)) = (setL l t ((newZ l es now).map (·.1)) ti ((newZ l es now).map (·.2))) from by unfold setO; rw [if_pos hs2], hs2] at hst
          unfold SetP at hst
          have hpm : pmsE ((newZ l es now).map (fun z : Ent × Amt => z.1.ky)) = 0 := pmsE_zero (fun p hp => by obtain ⟨z, hz, rfl⟩ := List.mem_map.1 hp; exact entE_zpa (HSR.out.newOk.ok z hz))
          have hce : clrE (setL l t ((newZ l es now).map (·.1)) ti ((newZ l es now).map (·.2))) ((newZ l es now).map (fun z : Ent × Amt => z.1.ky)) = 0 := by rw [clrE_p hM2 (by rw [List.length_map]; have := HZL2.out; omega)]; exact hpm
          have hce0 : clrE (setL l t ((newZ l es now).map (·.1)) ti ((newZ l es now).map (·.2))) [] = 0 := by rw [clrE_p hM2 (by decide)]; rfl
          have hc1 := fun W u p c (e : Env W) (h1 : HndsAt W (.slice p (setL l t ((newZ l es now).map (·.1)) ti ((newZ l es now).map (·.2))).length c) (setL l t ((newZ l es now).map (·.1)) ti ((newZ l es now).map (·.2)))) (h2 : PmsAt W u ((newZ l es now).map (fun z : Ent × Amt => z.1.ky))) => own_pclear (setL l t ((newZ l es now).map (·.1)) ti ((newZ l es now).map (·.2))) ((newZ l es now).map (fun z : Ent × Amt => z.1.ky)) (.slice p (setL l t ((newZ l es now).map (·.1)) ti ((newZ l es now).map (·.2))).length c) u W h1 h2 (fun _ x hx => by have := hMs x hx; omega) (by rw [List.length_map]; have := HZL2.out; omega) e
          rw [show clrO (setL l t ((newZ l es now).map (·.1)) ti ((newZ l es now).map (·.2))) ((newZ l es now).map (fun z : Ent × Amt => z.1.ky)) = l from (clrO_ok hce).trans hcl, hce] at hc1
          unfold SetP at hc1
          have hc2 := fun W p c (e : Env W) (h1 : HndsAt W (.slice p (setL l t ((newZ l es now).map (·.1)) ti ((newZ l es now).map (·.2))).length c) (setL l t ((newZ l es now).map (·.1)) ti ((newZ l es now).map (·.2)))) => (own_pclear (setL l t ((newZ l es now).map (·.1)) ti ((newZ l es now).map (·.2))) [] (.slice p (setL l t ((newZ l es now).map (·.1)) ti ((newZ l es now).map (·.2))).length c) (.slice none 0 0) W h1 (pmsAt_nil W) (fun _ x hx => by have := hMs x hx; omega) (by decide) e)
          rw [show clrO (setL l t ((newZ l es now).map (·.1)) ti ((newZ l es now).map (·.2))) [] = [] from (clrO_ok hce0).trans (clrL_none _), hce0] at hc2
          have hc3 : ∀ W p c, Env W → HndsAt W (.slice p (setL l t ((newZ l es now).map (·.1)) ti ((newZ l es now).map (·.2))).length c) (setL l t ((newZ l es now).map (·.1)) ti ((newZ l es now).map (·.2))) → Calls Tryz.prog 16 #[.slice p (setL l t ((newZ l es now).map (·.1)) ti ((newZ l es now).map (·.2))).length c, .slice none 0 0] W fun e w' => ∃ p c, e = .returned (.tuple #[.slice p 0 c, .int .i64 0]) ∧ Below W.heap.size W w' := fun W p c e h => (hc2 W p c e h).mono fun e w' H => H.none
          clear hc2
          have hsa := fun W v1 v2 (h1 : HndsAt W v1 l) (h2 : HndsAt W v2 l) => r29_same l l v1 v2 W h1 h2 (by have := HLL.out; omega)
          rw [decide_eq_true rfl] at hsa
          have htm := fun W => r3_time t W
          rw [decide_eq_true HSR.out.tim.1] at htm
          skip
          obtain ⟨M, hM⟩ : ∃ M, M = (setL l t ((newZ l es now).map (·.1)) ti ((newZ l es now).map (·.2))) := ⟨_, rfl⟩
          rw [← hM] at hst hc1 hc3 hln
          have hmz : IntKind.i64.wrap ((l.length : Int) + (n : Int)) = (M.length : Int) := by rw [IntWalk.i64_in _ (by have := HLL.out; have := HZL.out; omega), hln]; have := HN.out; omega
          have hmz2 : ((M.length : Int) != (M.length : Int)) = false := by simp
          have HNF : Hid (∀ p ∈ ((newZ l es now).map (fun z : Ent × Amt => z.1.ky)), finB l p = false) := Lib.hid (fun p hp => by obtain ⟨z, hz, rfl⟩ := List.mem_map.1 hp; exact HSR.out.newFresh hz)
          clear hcl hS2 hs2 hM2 hMs hpm hce hce0 hM hln hZ0
          have HC2 := Lib.hid hc3; clear hc3
          have HST := Lib.hid hst; clear hst
          have HC1 := Lib.hid hc1; clear hc1
          have HSA := Lib.hid hsa; clear hsa
          have HTM := Lib.hid htm; clear htm
          go_upto_region 18 with (first | ((with_reducible refine ((HST.out _ _ _ (ENV.out.below HB.out) HV.out HU6.out HZ7.out).mono ?_)); rintro e w' ⟨v1, rfl, ⟨pm, cm, rfl, hRm⟩, hb⟩; have HM := Lib.hid (show HndsAt w' (.slice pm M.length cm) M from ⟨_, _, rfl, hRm⟩); clear hRm HU6 HZ7; replace HK := Lib.hid (HK.out.keep hb); clear k0 k1 k2 k3 kf0 kf1 kf2 kf3; replace HV := Lib.hid (HndsAt.kept HV.out hb); replace HF := Lib.hid (PmsAt.kept HF.out hb); replace HB := Lib.hid (bch' HB.out hb); clear hb; obtain ⟨k0, k1, k2, k3, kf0, kf1, kf2, kf3⟩ := HK.out.c4) | ((with_reducible refine ((HC1.out _ _ _ _ (ENV.out.below HB.out) HM.out HF.out).mono ?_)); rintro e w' ⟨v2, rfl, ⟨pn, cn, rfl, hRn⟩, hb⟩; have HNL := Lib.hid (show HndsAt w' (.slice pn l.length cn) l from ⟨_, _, rfl, hRn⟩); clear hRn; replace HK := Lib.hid (HK.out.keep hb); clear k0 k1 k2 k3 kf0 kf1 kf2 kf3; replace HV := Lib.hid (HndsAt.kept HV.out hb); replace HF := Lib.hid (PmsAt.kept HF.out hb); replace HM := Lib.hid (HndsAt.kept HM.out hb); replace HB := Lib.hid (bch' HB.out hb); clear hb; obtain ⟨k0, k1, k2, k3, kf0, kf1, kf2, kf3⟩ := HK.out.c4) | ((with_reducible refine ((HC2.out _ _ _ (ENV.out.below HB.out) HM.out).mono ?_)); rintro e w' ⟨pz, cz, rfl, hb⟩; replace HK := Lib.hid (HK.out.keep hb); clear k0 k1 k2 k3 kf0 kf1 kf2 kf3; replace HV := Lib.hid (HndsAt.kept HV.out hb); replace HF := Lib.hid (PmsAt.kept HF.out hb); replace HM := Lib.hid (HndsAt.kept HM.out hb); replace HNL := Lib.hid (HndsAt.kept HNL.out hb); replace HB := Lib.hid (bch' HB.out hb); clear hb; obtain ⟨k0, k1, k2, k3, kf0, kf1, kf2, kf3⟩ := HK.out.c4))
          go_upto_region 20 with (first | (with_reducible refine ((HSA.out _ _ _ HNL.out HV.out).mono ?_); rintro e w' ⟨rfl, hb⟩; replace HK := Lib.hid (HK.out.keep hb); clear k0 k1 k2 k3 kf0 kf1 kf2 kf3; replace HV := Lib.hid (HndsAt.kept HV.out hb); replace HF := Lib.hid (PmsAt.kept HF.out hb); replace HM := Lib.hid (HndsAt.kept HM.out hb); replace HNL := Lib.hid (HndsAt.kept HNL.out hb); replace HB := Lib.hid (bch' HB.out hb); clear hb; obtain ⟨k0, k1, k2, k3, kf0, kf1, kf2, kf3⟩ := HK.out.c4))
          obtain ⟨w4, hw4⟩ : ∃ X, X = w' := ⟨_, rfl⟩
          subst hw4
          have HBy := HB; clear HB
          have HB := Lib.hid (Below.refl w4.heap.size w4)
          have HRF2 : Hid (RowX encPm 2 w4 p5 ((newZ l es now).map (fun z : Ent × Amt => z.1.ky))) := Lib.hid (by obtain ⟨p, c, e9, h⟩ := HF.out; injection e9 with e1 e2 e3; subst e1; exact h)
          clear HRF
          have HRF := HRF2; clear HRF2
          go_wp2_with fail
          go_loopw [123] (fun s wr => ∃ m : Nat, s = .int .i64 (m : Int) ∧ m ≤ n ∧ Hid (Below w4.heap.size w4 wr) ∧ Hid (Blk wr w.heap.size 48 #[.int .i64 t, .int .i64 ti, .slice p1 es.length c1, .slice p2 now.length c2]) ∧ Hid (HndsAt wr (.slice pn l.length cn) l)) (fun s _ => n - (intOf s).toNat)
          case atStart => exact ⟨0, rfl, Nat.zero_le _, HB, HK, HNL⟩
          case round =>
            obtain ⟨m, rfl, hm9, HB2, HK2_, HNL2⟩ := hrel
            clear HB HK HNL k0 k1 k2 k3 kf0 kf1 kf2 kf3
            have HB := HB2; have HK := HK2_; have HNL := HNL2; clear HB2 HK2_ HNL2
            obtain ⟨k0, k1, k2, k3, kf0, kf1, kf2, kf3⟩ := HK.out.c4
            by_cases hml : m < n
            · have hlt : (m : Int) < (n : Int) := by omega
              have hk0 : (0 : Int) ≤ (m : Int) := by omega
              have hlo : m * 2 < 9223372036854775807 := by have := HZL.out; omega
              have hun : IntKind.i64.wrap ((m : Int) + 1) = (m : Int) + 1 := IntWalk.i64_in _ (by have := HZL.out; omega)
              have hmf : m < ((newZ l es now).map (fun z : Ent × Amt => z.1.ky)).length := by rw [List.length_map, ← HN.out]; exact hml
              obtain ⟨b1, o1, rfl, hb1, hC1⟩ := HRF.out (fun h => by rw [h] at hmf; exact absurd hmf (Nat.not_lt_zero _))
              obtain ⟨x, hx⟩ : ∃ x, x = ((newZ l es now).map (fun z : Ent × Amt => z.1.ky))[m]'hmf := ⟨_, rfl⟩
              have hc1 := hC1 m hmf
              rw [← hx] at hc1
              have hnf := HNF.out x (by rw [hx]; exact List.getElem_mem hmf)
              have hfl := fun W (e : Env W) (h : HndsAt W (.slice pn l.length cn) l) => own_pfind l (.slice pn l.length cn) x.1 x.2 W h HLS.out e
              rw [finT_ok HLR.out, show finB l (x.1, x.2) = false from hnf] at hfl
              dsimp only at hfl
              generalize finI l (x.1, x.2) = zf at *
              have y0 : wr.cell? ⟨b1, o1 + m * 2, none⟩ = some (.int .i64 (x.1)) := (HB.out.cell (p := ⟨b1, o1 + m * 2 + 0, none⟩) hb1).trans (hc1 0 _ rfl)
              have y1 : wr.cell? ⟨b1, o1 + m * 2 + 1, none⟩ = some (.int .i64 (x.2)) := (HB.out.cell (p := ⟨b1, o1 + m * 2 + 1, none⟩) hb1).trans (hc1 1 _ rfl)
              have hbr : b1 < wr.heap.size := Nat.lt_of_lt_of_le hb1 HB.out.size
              clear hx hc1 hb1 hC1 hnf
              go_upto_region 23 with fail
              clear y0 y1 hbr
              have hb := (Below.refl wr.heap.size wr).alloc (Nat.le_refl _) (.cells #[.int .i64 (x.1), .int .i64 (x.2)] 23)
              have HXP := Lib.hid (Blk.new wr 23 #[.int .i64 (x.1), .int .i64 (x.2)])
              obtain ⟨n8, hn8⟩ : ∃ n, n = wr.heap.size := ⟨_, rfl⟩
              obtain ⟨Wa, hWWa⟩ : ∃ X, X = wr.alloc (.cells #[.int .i64 (x.1), .int .i64 (x.2)] 23) := ⟨_, rfl⟩
              rw [← hn8] at HXP ⊢
              rw [← hWWa] at hb HXP ⊢
              replace HK := Lib.hid (HK.out.keep hb); clear k0 k1 k2 k3 kf0 kf1 kf2 kf3; replace HNL := Lib.hid (HndsAt.kept HNL.out hb); replace HB := Lib.hid (bch' HB.out hb); clear hb; obtain ⟨k0, k1, k2, k3, kf0, kf1, kf2, kf3⟩ := HK.out.c4
              clear hWWa hn8
              obtain ⟨q0, q1, qf0, qf1⟩ := HXP.out.c2
              have HFL := Lib.hid hfl; clear hfl
              go_wp2_with (first | (with_reducible refine ((HFL.out _ (ENV.out.below (bch' HBy.out HB.out)) HNL.out).mono ?_); rintro e w' ⟨rfl, hb⟩; replace HK := Lib.hid (HK.out.keep hb); clear k0 k1 k2 k3 kf0 kf1 kf2 kf3; replace HXP := Lib.hid (HXP.out.keep hb); clear q0 q1 qf0 qf1; replace HNL := Lib.hid (HndsAt.kept HNL.out hb); replace HB := Lib.hid (bch' HB.out hb); clear hb; obtain ⟨k0, k1, k2, k3, kf0, kf1, kf2, kf3⟩ := HK.out.c4; obtain ⟨q0, q1, qf0, qf1⟩ := HXP.out.c2))
              go_roundw
              case rel => exact ⟨m + 1, by first | rfl | simp, by omega, HB, HK, HNL⟩
              case measure => first | (simp [intOf]; done) | (simp [intOf]; omega)
            · have hlt : ¬ (m : Int) < (n : Int) := by omega
              go_wp2_with (first | (with_reducible refine ((HTM.out _).mono ?_); rintro e w' ⟨rfl, rfl⟩) | (with_reducible refine ((HAW.out _ (ENV.out.below (bch' HBy.out HB.out))).mono ?_); rintro e w' ⟨rfl, hb⟩; replace HB := Lib.hid (bch' HB.out hb); clear hb))
              go_ret
              exact ⟨by first | rfl | simp, bch' HBy.out HB.out⟩
  · have hr : rgtB l t ti es now = false := by simpa using hr
    rw [hr] at hrg
    clear hr
    have HAW := Lib.hid haw; clear haw
    have HRG := Lib.hid hrg; clear hrg
    go_enter Tryz.func9, Tryz.ntmps9
    go_wp2_with (first | (with_reducible refine ((HRG.out _ HV.out HU.out HZ.out).mono ?_); rintro e w' ⟨rfl, hb⟩; replace HK := Lib.hid (HK.out.keep hb); clear k0 k1 k2 k3 kf0 kf1 kf2 kf3; replace HV := Lib.hid (HndsAt.kept HV.out hb); replace HU := Lib.hid (EntsAt.kept HU.out hb); replace HZ := Lib.hid (AmtsAt.kept HZ.out hb); replace HB := Lib.hid (bch' HB.out hb); clear hb; obtain ⟨k0, k1, k2, k3, kf0, kf1, kf2, kf3⟩ := HK.out.c4) | (with_reducible refine ((HAW.out _ (ENV.out.below HB.out)).mono ?_); rintro e w' ⟨rfl, hb⟩; replace HK := Lib.hid (HK.out.keep hb); clear k0 k1 k2 k3 kf0 kf1 kf2 kf3; replace HV := Lib.hid (HndsAt.kept HV.out hb); replace HU := Lib.hid (EntsAt.kept HU.out hb); replace HZ := Lib.hid (AmtsAt.kept HZ.out hb); replace HB := Lib.hid (bch' HB.out hb); clear hb; obtain ⟨k0, k1, k2, k3, kf0, kf1, kf2, kf3⟩ := HK.out.c4))
    go_ret
    exact ⟨rfl, HB.out⟩
end Go.Proofs.YtknlohmkachbmaaGreatDoor
