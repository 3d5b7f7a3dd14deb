/-
  Top 15: playFaders. Top 15: movements of a fader, plain. The law TopFadersContinuous. Movements of a fader handed in, opened.
-/
import Derived.Test.YtkjelfmgnkkijaaGreatDoorQfSe
import Derived.Test.YtkjelfmgnkkijaaGreatDoorQfMu
import Derived.Test.YtkjelfmgnkkijaaGreatDoorQfSg
import Derived.Test.YtkjelfmgnkkijaaGreatDoorQfSn
import Derived.Outline
import Derived.Deep.Cut
import Derived.Deep.DeepCutAuto
import Derived.Test.YtkjelfmgnkkijaaGreatDoorQfOp
set_option linter.unusedVariables false
set_option linter.unusedSimpArgs false
namespace Go.Proofs.YtkjelfmgnkkijaaGreatDoor
open Go.RowKit Go.Shelf Lum
open Go.Lib (decDigits itoa)
attribute [local go_sem] bs_get bs_extract_end bs_extract_from bs_extract bs_append

set_option maxRecDepth 100000 in
set_option maxHeartbeats 8000000 in
theorem l15_play (w : World) (env : Env w) :
    Calls Tryz.prog 71 #[] w fun e w' => e = .returned (.bool (true)) ∧ Below w.heap.size w w' := by
  have ENV := Lib.hid env; clear env
  have HB := Lib.hid (Below.refl w.heap.size w)
  have hfr := fun W => l26_front W
  have HFR := Lib.hid hfr; clear hfr
  go_enter Tryz.func71, Tryz.ntmps71
  go_wp2_with fail
  refine ((HFR.out _).mono ?_)
  rintro e w1 ⟨gv1, rfl, hg1, hb⟩
  have HG1 := Lib.hid hg1; clear hg1
  replace HB := Lib.hid (bch' HB.out hb); clear hb
  go_wp2_with fail
  refine ((own_smove_new 3 0 0 13107 0 false frontG [] gv1 (.slice none 0 0) 0 _ HG1.out (fds_nil _) (by decide +kernel) (by decide +kernel) (fun i h => absurd h (Nat.not_lt_zero i)) (by decide) belongs_nil (by decide) (ENV.out.below HB.out)).mono ?_)
  rw [show insL [] 0 false (mvF 3 false [] 0 13107 0 false) = [⟨3, [48], 13107, 0, 0, 0⟩] by decide +kernel]
  rintro e w2 ⟨pp2, cc2, rfl, ho2, hb⟩
  have HL2 := Lib.hid (OwnR.fds ho2); clear ho2
  replace HG1 := Lib.hid (GnsAt.kept HG1.out hb)
  replace HB := Lib.hid (bch' HB.out hb); clear hb
  go_wp2_with fail
  clear HG1
  refine ((HFR.out _).mono ?_)
  rintro e w3 ⟨gv3, rfl, hg3, hb⟩
  replace HL2 := Lib.hid (FdsAt.kept HL2.out hb)
  have HG3 := Lib.hid hg3; clear hg3
  replace HB := Lib.hid (bch' HB.out hb); clear hb
  go_wp2_with fail
  refine ((own_samount_ok 3 0 1 0 5 false frontG [⟨3, [48], 13107, 0, 0, 0⟩] gv3 (.slice pp2 1 cc2) _ HG3.out HL2.out (by decide +kernel) (by decide +kernel) (fdN_len (.inr (.inl ⟨3, 13107, rfl⟩))) (by decide) (ENV.out.below HB.out)).mono ?_)
  rw [show amT 3 false frontG [⟨3, [48], 13107, 0, 0, 0⟩] 1 0 5 = ([56, 48, 48, 48], true) by decide +kernel]
  dsimp only
  rintro e w4 ⟨rfl, hb⟩
  replace HL2 := Lib.hid (FdsAt.kept HL2.out hb)
  replace HG3 := Lib.hid (GnsAt.kept HG3.out hb)
  replace HB := Lib.hid (bch' HB.out hb); clear hb
  go_wp2_with fail
  clear HG3 HL2
  refine ((own_mapply 0 [56, 48, 48, 48] [49, 47, 50] 6 6 _ (by decide) (by decide) (fun q h => by have h2 := congrArg valR h; rw [valR_showR] at h2; rw [← h2]; unfold Fits; decide +kernel) (fun q h => by have h2 := congrArg valR h; rw [valR_showR] at h2; rw [← h2]; unfold Fits; decide +kernel) (by omega) (ENV.out.below HB.out)).mono ?_)
  rw [show apT [56, 48, 48, 48] [49, 47, 50] 0 = ([52, 48, 48, 48], 0) by decide +kernel]
  dsimp only
  rintro e w5 ⟨rfl, hb⟩
  replace HB := Lib.hid (bch' HB.out hb); clear hb
  go_wp2_with fail
  go_ret
  exact ⟨rfl, HB.out⟩
end Go.Proofs.YtkjelfmgnkkijaaGreatDoor
namespace Lum
open Go Go.RowKit Go.Shelf
open Go.Lib (decDigits itoa)
/-- A movement of a fader behind a time. -/
structure Pp where
  af : Int
  ti : Int
  to_ : Int
def ppv (l : List Pp) (i : Nat) : Pp := l[i]?.getD ⟨0, 0, 0⟩
def PpsC (W : World) (b o : Nat) (l : List Pp) : Prop := ∀ i, i < l.length → W.cell? ⟨b, o + i * 3, none⟩ = some (.int .u16 (ppv l i).af) ∧ W.cell? ⟨b, o + i * 3 + 1, none⟩ = some (.int .u16 (ppv l i).ti) ∧ W.cell? ⟨b, o + i * 3 + 2, none⟩ = some (.int .u16 (ppv l i).to_)
theorem PpsC.below {W W' : World} {b o B : Nat} {l : List Pp} (h : PpsC W b o l) (hb : Below B W W') (hl : b < B) : PpsC W' b o l :=
  fun i hi => ⟨(hb.cell (p := ⟨b, o + i * 3, none⟩) hl).trans (h i hi).1, (hb.cell (p := ⟨b, o + i * 3 + 1, none⟩) hl).trans (h i hi).2.1, (hb.cell (p := ⟨b, o + i * 3 + 2, none⟩) hl).trans (h i hi).2.2⟩
theorem ppsC_keeps : KeepsC PpsC := fun _ _ _ _ _ _ h hb hl _ => h.below hb hl
abbrev PpsAt := SlAt PpsC
theorem PpsAt.kept {W W' : World} {v : Value} {l : List Pp} (h : PpsAt W v l) (hb : Below W.heap.size W W') : PpsAt W' v l := SlAt.below ppsC_keeps h hb
def PpOk (x : Pp) : Prop := (0 ≤ x.af ∧ x.af ≤ 65535) ∧ (0 ≤ x.ti ∧ x.ti ≤ 65535) ∧ (0 ≤ x.to_ ∧ x.to_ ≤ 65535)
theorem glV_fits_add {k : Nat} {q : Rat} {tz st ti t : Int} (hq : Fits k q) (q0 : 0 ≤ q) (q1 : q ≤ ((65535 : Int) : Rat)) (h0 : 0 ≤ tz ∧ tz ≤ 65535) (t0 : 0 ≤ ti ∧ ti ≤ 65535) : Fits (k + 12) (glV q tz st ti t) := by
  have hr := glV_range (tz := tz) (st := st) (ti := ti) t q0 q1 h0 t0.1
  have hz : Fits (k + 12) ((tz : Int) : Rat) := fits_int _ _ (by omega) (Nat.le_trans ((dl_le (k := 5) (by omega)).2 (by omega)) (by omega))
  by_cases g1 : t < st
  · rw [glV_before g1]; exact hq.mono (by omega)
  by_cases g2 : st + ti ≤ t
  · rw [glV_behind g1 g2]; exact hz
  rw [glV_mid g1 g2] at hr ⊢
  have hm0 : (0 : Int) < (q.den : Int) := by have := q.den_pos; omega
  have hi0 : (0 : Int) < ti := by omega
  have hQ : (0 : Int) < (q.den : Int) * ti := Int.mul_pos hm0 hi0
  have hmr : ((q.den : Int) : Rat) ≠ 0 := fun h => by have := Rat.intCast_inj.1 (h.trans (show (0 : Rat) = ((0 : Int) : Rat) from rfl)); omega
  have hir : ((ti : Int) : Rat) ≠ 0 := fun h => by have := Rat.intCast_inj.1 (h.trans (show (0 : Rat) = ((0 : Int) : Rat) from rfl)); omega
  have hQr : (((q.den : Int) * ti : Int) : Rat) ≠ 0 := fun h => by have := Rat.intCast_inj.1 (h.trans (show (0 : Rat) = ((0 : Int) : Rat) from rfl)); omega
  have e1 : q * ((q.den : Int) : Rat) = ((q.num : Int) : Rat) := by
    conv => lhs; arg 1; rw [← Rat.num_divInt_den q]
    rw [Rat.divInt_eq_div, Rat.div_mul_cancel hmr]
  have e2 : Rat.divInt (t - st) ti * ((ti : Int) : Rat) = ((t - st : Int) : Rat) := by rw [Rat.divInt_eq_div, Rat.div_mul_cancel hir]
  have key : (q + (((tz : Int) : Rat) - q) * Rat.divInt (t - st) ti) * (((q.den : Int) * ti : Int) : Rat) = ((q.num * ti + (tz * q.den - q.num) * (t - st) : Int) : Rat) := by
    rw [Rat.intCast_mul, Rat.intCast_add, Rat.intCast_mul, Rat.intCast_mul, Rat.intCast_sub (tz * q.den) q.num, Rat.intCast_mul, ← e1, ← e2]
    generalize Rat.divInt (t - st) ti = r at *
    grind
  have e : q + (((tz : Int) : Rat) - q) * Rat.divInt (t - st) ti = Rat.divInt (q.num * ti + (tz * q.den - q.num) * (t - st)) ((q.den : Int) * ti) := by
    conv => rhs; rw [Rat.divInt_eq_div]
    rw [← key, Rat.div_def, Rat.mul_assoc, Rat.mul_inv_cancel _ hQr, Rat.mul_one]
  have n0 : 0 ≤ q.num * ti + (tz * q.den - q.num) * (t - st) := by
    have h := Rat.mul_nonneg hr.1 (int_le (Int.le_of_lt hQ))
    rw [key] at h
    exact Rat.intCast_le_intCast.1 h
  have n1 : q.num * ti + (tz * q.den - q.num) * (t - st) ≤ 65535 * ((q.den : Int) * ti) := by
    have h := mul_le_r hr.2 (int_le (Int.le_of_lt hQ))
    rw [key, ← Rat.intCast_mul] at h
    exact Rat.intCast_le_intCast.1 h
  have d1 : dl ((q.den : Int) * ti) ≤ k + 5 := Nat.le_trans (dl_mul _ _) (Nat.add_le_add hq.2 ((dl_le (k := 5) (by omega)).2 (by omega)))
  have d2 : dl (65535 * ((q.den : Int) * ti)) ≤ k + 10 := Nat.le_trans (dl_mul _ _) (by have h5 : dl 65535 = 5 := (by decide +kernel); omega)
  rw [e]
  exact divInt_fits _ _ (by omega) _ (Nat.le_trans (Nat.le_trans (dl_mono (by omega)) d2) (by omega)) (by omega)
theorem fadG_nu (nu : Int) (inh : Bool) (fr : Txt) (tz st ti stp : Int) : fadG nu inh [⟨nu, fr, tz, st, ti, stp⟩] = ⟨nu, fr, tz, st, ti, stp⟩ := fadG_at (i := 0) (by simp) rfl (fun i h => absurd h (Nat.not_lt_zero i))
/-- The faders behind k movements. -/
def FInv (nu : Int) (ps : List Pp) (k : Nat) (t : Int) (l : List Fdr) : Prop :=
  (0 ≤ t ∧ t ≤ 65535 * (k : Int)) ∧ ((k = 0 ∧ l = []) ∨ ∃ (j : Nat) (q : Rat) (stp : Int), k = j + 1 ∧ j < ps.length ∧ l = [⟨nu, showR q, (ppv ps j).to_, t, (ppv ps j).ti, stp⟩] ∧ Fits (182 + 12 * k) q ∧ 0 ≤ q ∧ q ≤ ((65535 : Int) : Rat) ∧ (0 ≤ stp ∧ stp ≤ 10000000))
theorem facOk_nil : FacOk [] := ⟨Nat.zero_le _, fun j h => absurd h (Nat.not_lt_zero _), fun j h => absurd h (Nat.not_lt_zero _), fun j h => absurd h (Nat.not_lt_zero _), fun j h => absurd h (Nat.not_lt_zero _)⟩
theorem facOk_sing {f : Fdr} (h : 1 ≤ f.su ∧ f.su ≤ 1048576) (hg : fgE f = 0) (hs : 0 ≤ f.stp ∧ f.stp ≤ 10000000) : FacOk [f] := by
  have one : ∀ j, j < [f].length → j = 0 := fun j hj => by simpa using hj
  refine ⟨by simp, fun j hj => ?_, fun j hj => ?_, fun j hj => ?_, fun j hj i hi => ?_⟩ <;> obtain rfl := one j hj
  · exact h
  · exact hg
  · exact hs
  · exact absurd hi (Nat.not_lt_zero _)
theorem belongs_0 {nu : Int} : Belongs (fun k => (fdv [] k).su) ([] : List Fdr).length nu 0 false := ⟨Nat.le_refl _, fun _ h => absurd h (Nat.not_lt_zero _), (fun h => by cases h), fun _ _ _ h => absurd h (Nat.not_lt_zero _), fun _ _ h => absurd h (Nat.not_lt_zero _)⟩
theorem belongs_1 (x : Fdr) {nu : Int} (h : x.su = nu) : Belongs (fun k => (fdv [x] k).su) [x].length nu 0 true := ⟨by simp, fun _ h => absurd h (Nat.not_lt_zero _), fun _ => ⟨by simp, h⟩, (fun h => by cases h), fun j h1 h2 => by simp at h2; omega⟩
theorem FInv.fac {nu : Int} {ps : List Pp} {k : Nat} {t : Int} {l : List Fdr} (h : FInv nu ps k t l) (hn : 1 ≤ nu ∧ nu ≤ 1048576) (hk : k ≤ 12) (hp : ∀ i, i < ps.length → PpOk (ppv ps i)) : FacOk l ∧ (∀ i, i < l.length → (fdv l i).fr.length ≤ 1000) := by
  obtain ⟨ht, ⟨-, rfl⟩ | ⟨j, q, stp, rfl, hj, rfl, hq, q0, q1, hs⟩⟩ := h
  · exact ⟨facOk_nil, fun i h => absurd h (Nat.not_lt_zero _)⟩
  · obtain ⟨-, h2, h3⟩ := hp j hj
    refine ⟨facOk_sing hn (glE_in (levE_in (check_gen hq (by omega)) fun g => g.elim (fun g => absurd g (Rat.not_lt.2 q0)) (fun g => absurd g (Rat.not_lt.2 q1))) ⟨h3, (show 0 ≤ t ∧ t ≤ 10000000 from ⟨ht.1, by omega⟩), (show 0 ≤ (ppv ps j).ti ∧ (ppv ps j).ti ≤ 10000000 from ⟨by omega, by omega⟩)⟩) hs, fun i hi => ?_⟩
    obtain rfl : i = 0 := by simpa using hi
    show (showR q).length ≤ 1000
    have := showR_len _ _ hq; omega
theorem FInv.fits {nu : Int} {inh : Bool} {ps : List Pp} {k : Nat} {t : Int} {l : List Fdr} (h : FInv nu ps k t l) (hp : ∀ i, i < ps.length → PpOk (ppv ps i)) (t2 : Int) : Fits (182 + 12 * (k + 1)) (lvlQ nu inh l t2) := by
  obtain ⟨ht, ⟨-, rfl⟩ | ⟨j, q, stp, rfl, hj, rfl, hq, q0, q1, hs⟩⟩ := h
  · exact (fadL_fits t2 (fadG_fg facOk_nil) (fadG_len fun i h => absurd h (Nat.not_lt_zero _))).mono (by omega)
  · obtain ⟨-, h2, h3⟩ := hp j hj
    unfold lvlQ
    rw [fadG_nu]
    show Fits _ (glV (valR (showR q)) _ _ _ _)
    rw [valR_showR]
    exact (glV_fits_add hq q0 q1 h3 h2).mono (by omega)
/-- One movement more. -/
theorem FInv.step {nu : Int} {inh : Bool} {ps : List Pp} {k : Nat} {t : Int} {l : List Fdr} (h : FInv nu ps k t l) (hn : 1 ≤ nu ∧ nu ≤ 1048576) (hk : k < ps.length) (h12 : ps.length ≤ 12) (hp : ∀ i, i < ps.length → PpOk (ppv ps i)) :
    ∃ hit, Belongs (fun k => (fdv l k).su) l.length nu 0 hit ∧ l.length < 16 ∧ mvIn (t + (ppv ps k).af) (ppv ps k).to_ (ppv ps k).ti ∧ (insL l 0 hit (mvF nu inh l (t + (ppv ps k).af) (ppv ps k).to_ (ppv ps k).ti hit)).length = 1 ∧ FInv nu ps (k + 1) (t + (ppv ps k).af) (insL l 0 hit (mvF nu inh l (t + (ppv ps k).af) (ppv ps k).to_ (ppv ps k).ti hit)) := by
  obtain ⟨hf, -⟩ := h.fac hn (by omega) hp
  obtain ⟨r0, r1⟩ := lvlQ_range (nu := nu) (inh := inh) hf (t + (ppv ps k).af)
  have hfit := h.fits (inh := inh) hp (t + (ppv ps k).af)
  obtain ⟨p1, p2, p3⟩ := hp k hk
  have ht := h.1
  have hm : mvIn (t + (ppv ps k).af) (ppv ps k).to_ (ppv ps k).ti := ⟨⟨⟨by omega, by omega⟩, by omega, by omega⟩, p3⟩
  obtain ⟨hit, hb, hl, e⟩ : ∃ hit, Belongs (fun k => (fdv l k).su) l.length nu 0 hit ∧ l.length < 16 ∧ ∀ X, insL l 0 hit X = [X] := by
    obtain ⟨-, ⟨-, rfl⟩ | ⟨j, q, stp, rfl, hj, rfl, -⟩⟩ := h
    · exact ⟨false, belongs_0, by simp, fun _ => rfl⟩
    · exact ⟨true, belongs_1 _ rfl, by simp, fun _ => rfl⟩
  refine ⟨hit, hb, hl, hm, by rw [e]; rfl, ⟨by omega, by omega⟩, .inr ⟨k, lvlQ nu inh l (t + (ppv ps k).af), (mvF nu inh l (t + (ppv ps k).af) (ppv ps k).to_ (ppv ps k).ti hit).stp, rfl, hk, ?_, hfit, r0, r1, mvF_stp hf hm⟩⟩
  rw [e]
  show [(⟨(fadG nu inh l).su, _, _, _, _, _⟩ : Fdr)] = _
  rw [fadG_su]; rfl
theorem FInv.start {nu : Int} {ps : List Pp} : FInv nu ps 0 0 [] := ⟨by decide, .inl ⟨rfl, rfl⟩⟩
theorem FInv.last {nu : Int} {inh : Bool} {ps : List Pp} {k : Nat} {t : Int} {l : List Fdr} (h : FInv nu ps (k + 1) t l) (hp : ∀ i, i < ps.length → PpOk (ppv ps i)) : lvlQ nu inh l (t + (ppv ps k).ti) = (((ppv ps k).to_ : Int) : Rat) := by
  obtain ⟨ht, ⟨h0, -⟩ | ⟨j, q, stp, e, hj, rfl, -⟩⟩ := h
  · cases h0
  · obtain rfl : k = j := by omega
    obtain ⟨-, h2, -⟩ := hp k hj
    unfold lvlQ
    rw [fadG_nu]
    exact glV_behind (st := t) (ti := (ppv ps k).ti) (t := t + (ppv ps k).ti) (by omega) (Int.le_refl _)
end Lum
namespace Go.Proofs.YtkjelfmgnkkijaaGreatDoor
open Go.RowKit Go.Shelf Lum
open Go.Lib (decDigits itoa)
attribute [local go_sem] bs_get bs_extract_end bs_extract_from bs_extract bs_append

set_option maxRecDepth 100000 in
set_option maxHeartbeats 16000000 in
theorem law_tfaders (nu pr : Int) (inh : Bool) (gs : List Gn) (gv : Value) (ps : List Pp) (vv : Value) (w : World) (hv : GnsAt w gv gs) (hp : PpsAt w vv ps) (hok : ∀ i, i < ps.length → PpOk (ppv ps i)) (hml : ps.length ≤ maxLen) (env : Env w) :
    Calls Tryz.prog 14 #[.agg #[.int .i64 nu, .int .i64 pr, .bool (inh), gv], vv] w fun e w' => e = .returned (.bool (true)) ∧ Below w.heap.size w w' := by
  obtain ⟨pg, cg, rfl⟩ : ∃ pg cg, gv = .slice pg gs.length cg := by obtain ⟨pg, cg, e, -⟩ := hv; exact ⟨pg, cg, e⟩
  obtain ⟨pv, cv, rfl⟩ : ∃ pv cv, vv = .slice pv ps.length cv := by obtain ⟨a, b, e, -⟩ := hp; exact ⟨a, b, e⟩
  have ENV := Lib.hid env; clear env
  have HV0 := Lib.hid hv; have HP0 := Lib.hid hp; have HOK := Lib.hid hok; have HML := Lib.hid hml
  clear hok hp
  have HK := Lib.hid (Blk.new w 58 #[.int .i64 nu, .int .i64 pr, .bool (inh), (.slice pg gs.length cg)])
  have HB := Lib.hid ((Below.refl w.heap.size w).alloc (Nat.le_refl _) (.cells #[.int .i64 nu, .int .i64 pr, .bool (inh), (.slice pg gs.length cg)] 58))
  obtain ⟨k0, k1, k2, k3, kf0, kf1, kf2, kf3⟩ := HK.out.c4
  have hal := (Below.refl w.heap.size w).alloc (Nat.le_refl _) (.cells #[.int .i64 nu, .int .i64 pr, .bool (inh), (.slice pg gs.length cg)] 58)
  have HV := Lib.hid (GnsAt.kept hv hal)
  clear hal hv
  have haw := fun W (e : Env W) => l15_play W e
  have hfe := fun su sv W (h : SbsAt W sv su) => r26_few su sv W h
  have HAW := Lib.hid haw; clear haw
  have HFE := Lib.hid hfe; clear hfe
  go_enter Tryz.func14, Tryz.ntmps14
  go_wp2_with fail
  have HN := Lib.hid (blkN1 w (.cells #[.int .i64 nu, .int .i64 pr, .bool (inh), (.slice pg gs.length cg)] 58) 58 #[.int .i64 nu, .int .i64 pr, .bool (inh), (.slice pg gs.length cg)])
  generalize w.alloc (.cells #[.int .i64 nu, .int .i64 pr, .bool (inh), (.slice pg gs.length cg)] 58) = w1 at *
  have hal := (Below.refl w1.heap.size w1).alloc (Nat.le_refl _) (.cells #[.int .i64 nu, .int .i64 pr, .bool (inh), (.slice pg gs.length cg)] 58)
  with_reducible refine ((HFE.out _ _ _ (sbs_one HN.out (GnsAt.kept HV.out hal))).mono ?_)
  rintro e w2 ⟨b1, rfl, -, hb⟩
  replace HK := Lib.hid ((HK.out.keep hal).keep hb)
  clear k0 k1 k2 k3 kf0 kf1 kf2 kf3
  replace HV := Lib.hid (GnsAt.kept (GnsAt.kept HV.out hal) hb)
  replace HB := Lib.hid (bch' (bch' HB.out hal) hb)
  clear hal hb HN
  obtain ⟨k0, k1, k2, k3, kf0, kf1, kf2, kf3⟩ := HK.out.c4
  cases b1
  · go_wp2_with (first | (with_reducible refine ((HAW.out _ (ENV.out.below HB.out)).mono ?_); rintro e w' ⟨rfl, hb⟩; replace HK := Lib.hid (HK.out.keep hb); clear k0 k1 k2 k3 kf0 kf1 kf2 kf3; replace HV := Lib.hid (GnsAt.kept HV.out hb); replace HB := Lib.hid (bch' HB.out hb); clear hb; obtain ⟨k0, k1, k2, k3, kf0, kf1, kf2, kf3⟩ := HK.out.c4))
    go_ret
    exact ⟨rfl, HB.out⟩
  · have hck := fun W (h : GnsAt W (.slice pg gs.length cg) gs) => r26_check nu pr inh gs (.slice pg gs.length cg) W h
    by_cases hs : subE nu pr inh gs = 0
    · rw [hs] at hck
      have HSU : Hid (sbE ⟨nu, pr, inh, gs⟩ = 0) := Lib.hid hs
      clear hs
      have HCK := Lib.hid hck; clear hck
      by_cases g0 : ps.length = 0
      · have q0 : ((ps.length : Int) == 0) = true := by rw [g0]; rfl
        have q1 : (ps.length == 0) = true := by rw [g0]; rfl
        clear g0
        go_wp2_with (first | (with_reducible refine ((HCK.out _ HV.out).mono ?_); rintro e w' ⟨rfl, hb⟩; replace HK := Lib.hid (HK.out.keep hb); clear k0 k1 k2 k3 kf0 kf1 kf2 kf3; replace HV := Lib.hid (GnsAt.kept HV.out hb); replace HB := Lib.hid (bch' HB.out hb); clear hb; obtain ⟨k0, k1, k2, k3, kf0, kf1, kf2, kf3⟩ := HK.out.c4) | (with_reducible refine ((HAW.out _ (ENV.out.below HB.out)).mono ?_); rintro e w' ⟨rfl, hb⟩; replace HK := Lib.hid (HK.out.keep hb); clear k0 k1 k2 k3 kf0 kf1 kf2 kf3; replace HV := Lib.hid (GnsAt.kept HV.out hb); replace HB := Lib.hid (bch' HB.out hb); clear hb; obtain ⟨k0, k1, k2, k3, kf0, kf1, kf2, kf3⟩ := HK.out.c4))
        go_ret
        exact ⟨rfl, HB.out⟩
      · by_cases g1 : 12 < ps.length
        · have q0 : ((ps.length : Int) == 0) = false := by rw [beq_eq_false_iff_ne]; omega
          have q1 : (12 : Int) < (ps.length : Int) := by omega
          have q3 : ps.length ≠ 0 := by omega
          clear g0
          go_wp2_with (first | (with_reducible refine ((HCK.out _ HV.out).mono ?_); rintro e w' ⟨rfl, hb⟩; replace HK := Lib.hid (HK.out.keep hb); clear k0 k1 k2 k3 kf0 kf1 kf2 kf3; replace HV := Lib.hid (GnsAt.kept HV.out hb); replace HB := Lib.hid (bch' HB.out hb); clear hb; obtain ⟨k0, k1, k2, k3, kf0, kf1, kf2, kf3⟩ := HK.out.c4) | (with_reducible refine ((HAW.out _ (ENV.out.below HB.out)).mono ?_); rintro e w' ⟨rfl, hb⟩; replace HK := Lib.hid (HK.out.keep hb); clear k0 k1 k2 k3 kf0 kf1 kf2 kf3; replace HV := Lib.hid (GnsAt.kept HV.out hb); replace HB := Lib.hid (bch' HB.out hb); clear hb; obtain ⟨k0, k1, k2, k3, kf0, kf1, kf2, kf3⟩ := HK.out.c4))
          go_ret
          exact ⟨rfl, HB.out⟩
        · have HN0 : Hid (0 < ps.length) := Lib.hid (by omega)
          have H12 : Hid (ps.length ≤ 12) := Lib.hid (by omega)
          have q0 : ((ps.length : Int) == 0) = false := by rw [beq_eq_false_iff_ne]; omega
          have q1 : ¬ (12 : Int) < (ps.length : Int) := by omega
          have q2 : ¬ 12 < ps.length := by omega
          have q3 : ps.length ≠ 0 := by omega
          clear g0 g1
          go_wp2_with (first | (with_reducible refine ((HCK.out _ HV.out).mono ?_); rintro e w' ⟨rfl, hb⟩; replace HK := Lib.hid (HK.out.keep hb); clear k0 k1 k2 k3 kf0 kf1 kf2 kf3; replace HV := Lib.hid (GnsAt.kept HV.out hb); replace HB := Lib.hid (bch' HB.out hb); clear hb; obtain ⟨k0, k1, k2, k3, kf0, kf1, kf2, kf3⟩ := HK.out.c4))
          obtain ⟨w5, rfl⟩ : ∃ w5 : World, w5 = w' := ⟨_, rfl⟩
          have HK5 := HK; have HV5 := HV; have HB0 := HB
          clear k0 k1 k2 k3 kf0 kf1 kf2 kf3
          clear HB HK HV
          have HB5 := Lib.hid (Below.refl w5.heap.size w5)
          go_loopw [5, 6, 40] (fun s5 s6 s40 wr => ∃ (k r : Nat) (t : Int) (pl : Option Addr) (cl : Nat) (L : List Fdr), s5 = .slice pl L.length cl ∧ s6 = .int .i64 t ∧ s40 = .int .i64 (k : Int) ∧ Hid (k + r = ps.length) ∧ Hid (Below w5.heap.size w5 wr) ∧ Hid (FdsAt wr (.slice pl L.length cl) L) ∧ Hid (FInv nu ps k t L)) (fun _ _ s40 _ => ps.length - (intOf s40).toNat)
          case atStart => exact ⟨0, ps.length, 0, none, 0, [], rfl, rfl, rfl, Lib.hid (by omega), HB5, Lib.hid (fds_nil _), Lib.hid FInv.start⟩
          case round =>
            obtain ⟨k, r, t, pl, cl, L, rfl, rfl, rfl, hkr, HB2, HL, HI⟩ := hrel
            clear HB5
            have HB5 := HB2; clear HB2
            have HB : Hid (Below w.heap.size w wr) := Lib.hid (bch' HB0.out HB5.out)
            have HK := Lib.hid (HK5.out.keep HB5.out)
            have HV := Lib.hid (GnsAt.kept HV5.out HB5.out)
            obtain ⟨k0, k1, k2, k3, kf0, kf1, kf2, kf3⟩ := HK.out.c4
            cases r with
            | zero =>
              have hlt : ¬ (k : Int) < (ps.length : Int) := by have := hkr.out; omega
              obtain rfl : k = ps.length := by have := hkr.out; omega
              obtain ⟨j, hj⟩ : ∃ j, ps.length = j + 1 := ⟨ps.length - 1, by have := HN0.out; omega⟩
              have hkl : j < ps.length := by omega
              have hji : (j : Int) < (ps.length : Int) := by omega
              have hj0 : (0 : Int) ≤ (j : Int) := by omega
              have h12 : ps.length ≤ 12 := H12.out
              have hwj : IntKind.i64.wrap ((ps.length : Int) - 1) = (j : Int) := (IntWalk.i64_in _ (by omega)).trans (by omega)
              obtain ⟨b, o, hpv, hb, hC⟩ : ∃ b o, pv = some ⟨b, o, none⟩ ∧ b < w.heap.size ∧ PpsC w b o ps := by
                obtain ⟨p, c, e, -, h2⟩ := HP0.out
                injection e with e1 e2 e3
                subst e1
                exact h2 (fun h => by subst h; exact absurd hkl (Nat.not_lt_zero _))
              subst hpv
              obtain ⟨x1, x2, x3⟩ := hC.below HB.out hb j hkl
              have hbr : b < wr.heap.size := by have := HB.out.size; omega
              clear hC hb
              have hok := subOk HSU.out
              have hn0 : 1 ≤ nu ∧ nu ≤ 1048576 := ⟨hok.nu0, hok.nu1⟩
              have fac1 := HI.out.fac hn0 (by omega) HOK.out
              obtain ⟨⟨a0, a1⟩, ⟨i0, i1⟩, ⟨o0, o1⟩⟩ := HOK.out j hkl
              have ht := HI.out.1
              have hla9 : lvlQ nu inh L (t + (ppv ps j).ti) = (((ppv ps j).to_ : Int) : Rat) := by have h := HI.out; rw [hj] at h; exact h.last HOK.out
              have hlc := fun v W (h1 : GnsAt W (.slice pg gs.length cg) gs) (h2 : FdsAt W v L) (e : Env W) => own_slev_ok nu pr (t + (ppv ps j).ti) inh gs L (.slice pg gs.length cg) v W h1 h2 HSU.out (facE_ok fac1.1) fac1.2 e
              rw [hla9] at hlc
              have hwh := fun W => r2_whole (ppv ps j).to_ W (by omega) (by omega)
              rw [← showR_int] at hwh
              have hw1 : IntKind.i64.wrap (t + (ppv ps j).ti) = (t + (ppv ps j).ti) := IntWalk.i64_in _ (by omega)
              have hw3 : IntKind.i64.wrap (ppv ps j).ti = (ppv ps j).ti := IntWalk.i64_in _ (by omega)
              have hw4 : IntKind.i64.wrap (ppv ps j).to_ = (ppv ps j).to_ := IntWalk.i64_in _ (by omega)
              generalize showR (((ppv ps j).to_ : Int) : Rat) = te at *
              clear hla9 hok hn0 fac1
              have HLC := Lib.hid hlc; clear hlc
              have HWH := Lib.hid hwh; clear hwh
              have HJ := Lib.hid hj; clear hj
              have hal := (Below.refl wr.heap.size wr).alloc (Nat.le_refl _) (.cells #[.int .u16 (ppv ps j).af, .int .u16 (ppv ps j).ti, .int .u16 (ppv ps j).to_] 126)
              replace HK := Lib.hid (HK.out.keep hal)
              replace HV := Lib.hid (GnsAt.kept HV.out hal)
              replace HL := Lib.hid (FdsAt.kept HL.out hal)
              replace HB := Lib.hid (bch' HB.out hal)
              clear hal
              have HP := Lib.hid (Blk.new wr 126 #[.int .u16 (ppv ps j).af, .int .u16 (ppv ps j).ti, .int .u16 (ppv ps j).to_])
              go_upto_region 17 with fail
              clear k0 k1 k2 k3 kf0 kf1 kf2 kf3
              clear x1 x2 x3 hbr
              generalize wr.alloc (.cells #[.int .u16 (ppv ps j).af, .int .u16 (ppv ps j).ti, .int .u16 (ppv ps j).to_] 126) = wg at *
              obtain ⟨k0, k1, k2, k3, kf0, kf1, kf2, kf3⟩ := HK.out.c4
              obtain ⟨p0, p1, p2, pf0, pf1, pf2⟩ := HP.out.c3
              go_wp2_with (first | (with_reducible refine ((HLC.out _ _ HV.out HL.out (ENV.out.below HB.out)).mono ?_); rintro e w' ⟨rfl, hb⟩; replace HK := Lib.hid (HK.out.keep hb); clear k0 k1 k2 k3 kf0 kf1 kf2 kf3; replace HP := Lib.hid (HP.out.keep hb); clear p0 p1 p2 pf0 pf1 pf2; replace HV := Lib.hid (GnsAt.kept HV.out hb); replace HL := Lib.hid (FdsAt.kept HL.out hb); replace HB := Lib.hid (bch' HB.out hb); clear hb; obtain ⟨k0, k1, k2, k3, kf0, kf1, kf2, kf3⟩ := HK.out.c4; obtain ⟨p0, p1, p2, pf0, pf1, pf2⟩ := HP.out.c3) | (with_reducible refine ((HWH.out _).mono ?_); rintro e w' ⟨rfl, hb⟩; replace HK := Lib.hid (HK.out.keep hb); clear k0 k1 k2 k3 kf0 kf1 kf2 kf3; replace HP := Lib.hid (HP.out.keep hb); clear p0 p1 p2 pf0 pf1 pf2; replace HV := Lib.hid (GnsAt.kept HV.out hb); replace HL := Lib.hid (FdsAt.kept HL.out hb); replace HB := Lib.hid (bch' HB.out hb); clear hb; obtain ⟨k0, k1, k2, k3, kf0, kf1, kf2, kf3⟩ := HK.out.c4; obtain ⟨p0, p1, p2, pf0, pf1, pf2⟩ := HP.out.c3) | (with_reducible refine ((HAW.out _ (ENV.out.below HB.out)).mono ?_); rintro e w' ⟨rfl, hb⟩; replace HK := Lib.hid (HK.out.keep hb); clear k0 k1 k2 k3 kf0 kf1 kf2 kf3; replace HP := Lib.hid (HP.out.keep hb); clear p0 p1 p2 pf0 pf1 pf2; replace HV := Lib.hid (GnsAt.kept HV.out hb); replace HL := Lib.hid (FdsAt.kept HL.out hb); replace HB := Lib.hid (bch' HB.out hb); clear hb; obtain ⟨k0, k1, k2, k3, kf0, kf1, kf2, kf3⟩ := HK.out.c4; obtain ⟨p0, p1, p2, pf0, pf1, pf2⟩ := HP.out.c3))
              go_ret
              exact ⟨rfl, HB.out⟩
            | succ r =>
              have hkl : k < ps.length := by have := hkr.out; omega
              have hlt : (k : Int) < (ps.length : Int) := by omega
              have h12 : ps.length ≤ 12 := H12.out
              have hun : IntKind.i64.wrap ((k : Int) + 1) = (k : Int) + 1 := IntWalk.i64_in _ (by omega)
              obtain ⟨b, o, hpv, hb, hC⟩ : ∃ b o, pv = some ⟨b, o, none⟩ ∧ b < w.heap.size ∧ PpsC w b o ps := by
                obtain ⟨p, c, e, -, h2⟩ := HP0.out
                injection e with e1 e2 e3
                subst e1
                exact h2 (fun h => by subst h; exact absurd hkl (Nat.not_lt_zero _))
              subst hpv
              obtain ⟨x1, x2, x3⟩ := hC.below HB.out hb k hkl
              have hbr : b < wr.heap.size := by have := HB.out.size; omega
              clear hC hb
              have hok := subOk HSU.out
              have hn0 : 1 ≤ nu ∧ nu ≤ 1048576 := ⟨hok.nu0, hok.nu1⟩
              have fac1 := HI.out.fac hn0 (by omega) HOK.out
              obtain ⟨hit, hb9, hl16, hm, hL1, hI2⟩ := HI.out.step (inh := inh) hn0 hkl h12 HOK.out
              have fac2 := hI2.fac hn0 (by omega) HOK.out
              obtain ⟨⟨a0, a1⟩, ⟨i0, i1⟩, ⟨o0, o1⟩⟩ := HOK.out k hkl
              have ht := HI.out.1
              have fitL := HI.out.fits (inh := inh) HOK.out (t + (ppv ps k).af)
              have fitN := hI2.fits (inh := inh) HOK.out (t + (ppv ps k).af)
              have rgN := lvlQ_range (nu := nu) (inh := inh) fac2.1 (t + (ppv ps k).af)
              have hla := fun v W (h1 : GnsAt W (.slice pg gs.length cg) gs) (h2 : FdsAt W v L) (e : Env W) => own_slev_ok nu pr (t + (ppv ps k).af) inh gs L (.slice pg gs.length cg) v W h1 h2 HSU.out (facE_ok fac1.1) fac1.2 e
              have hmv := fun v W (h1 : GnsAt W (.slice pg gs.length cg) gs) (h2 : FdsAt W v L) (e : Env W) => own_smove_all nu pr (t + (ppv ps k).af) (ppv ps k).to_ (ppv ps k).ti inh gs L (.slice pg gs.length cg) v 0 hit W h1 h2 HSU.out (facE_ok fac1.1) fac1.2 hm hb9 (.inl hl16) e
              have hlb := fun v W (h1 : GnsAt W (.slice pg gs.length cg) gs) (h2 : FdsAt W v (insL L 0 hit (mvF nu inh L (t + (ppv ps k).af) (ppv ps k).to_ (ppv ps k).ti hit))) (e : Env W) => own_slev_ok nu pr (t + (ppv ps k).af) inh gs (insL L 0 hit (mvF nu inh L (t + (ppv ps k).af) (ppv ps k).to_ (ppv ps k).ti hit)) (.slice pg gs.length cg) v W h1 h2 HSU.out (facE_ok fac2.1) fac2.2 e
              have hrl := fun W => r3_level (showR (lvlQ nu inh (insL L 0 hit (mvF nu inh L (t + (ppv ps k).af) (ppv ps k).to_ (ppv ps k).ti hit)) (t + (ppv ps k).af))) W (by have := showR_len _ _ fitN; omega)
              rw [levE_in (check_gen fitN (by omega)) (fun g => g.elim (fun g => absurd g (Rat.not_lt.2 rgN.1)) (fun g => absurd g (Rat.not_lt.2 rgN.2)))] at hrl
              have hth := mvF_then (inh := inh) (to_ := (ppv ps k).to_) (mv := hit) hb9 (t := (t + (ppv ps k).af)) (ti := (ppv ps k).ti)
              have HI2 := Lib.hid hI2
              generalize (insL L 0 hit (mvF nu inh L (t + (ppv ps k).af) (ppv ps k).to_ (ppv ps k).ti hit)) = LN at *
              rw [hL1] at hmv
              have hw1 : IntKind.i64.wrap (t + (ppv ps k).af) = (t + (ppv ps k).af) := IntWalk.i64_in _ (by omega)
              have hw2 : IntKind.i64.wrap (ppv ps k).af = (ppv ps k).af := IntWalk.i64_in _ (by omega)
              have hw3 : IntKind.i64.wrap (ppv ps k).ti = (ppv ps k).ti := IntWalk.i64_in _ (by omega)
              have hw4 : IntKind.i64.wrap (ppv ps k).to_ = (ppv ps k).to_ := IntWalk.i64_in _ (by omega)
              clear hok hn0 fac1 fac2 hb9 hl16 hm hI2 fitL fitN rgN
              have hal := (Below.refl wr.heap.size wr).alloc (Nat.le_refl _) (.cells #[.int .u16 (ppv ps k).af, .int .u16 (ppv ps k).ti, .int .u16 (ppv ps k).to_] 126)
              replace HK := Lib.hid (HK.out.keep hal)
              replace HV := Lib.hid (GnsAt.kept HV.out hal)
              replace HL := Lib.hid (FdsAt.kept HL.out hal)
              replace HB := Lib.hid (bch' HB.out hal)
              replace HB5 := Lib.hid (bch' HB5.out hal)
              clear hal
              have HP := Lib.hid (Blk.new wr 126 #[.int .u16 (ppv ps k).af, .int .u16 (ppv ps k).ti, .int .u16 (ppv ps k).to_])
              go_upto_region 8 with fail
              clear k0 k1 k2 k3 kf0 kf1 kf2 kf3
              clear x1 x2 x3 hbr
              generalize wr.alloc (.cells #[.int .u16 (ppv ps k).af, .int .u16 (ppv ps k).ti, .int .u16 (ppv ps k).to_] 126) = wg at *
              obtain ⟨k0, k1, k2, k3, kf0, kf1, kf2, kf3⟩ := HK.out.c4
              obtain ⟨p0, p1, p2, pf0, pf1, pf2⟩ := HP.out.c3
              have HL1 := Lib.hid hL1
              clear hL1
              by_cases h0 : 0 < (ppv ps k).ti
              · replace hth := hth h0
                rw [hth] at hlb hrl
                clear hth ht
                generalize showR (lvlQ nu inh L (t + (ppv ps k).af)) = ta at *
                have HLA := Lib.hid hla; clear hla
                have HMV := Lib.hid hmv; clear hmv
                have HLB := Lib.hid hlb; clear hlb
                have HRL := Lib.hid hrl; clear hrl
                go_upto_region 11 with (first | (with_reducible refine ((HLA.out _ _ HV.out HL.out (ENV.out.below HB.out)).mono ?_); rintro e w' ⟨rfl, hb⟩; replace HK := Lib.hid (HK.out.keep hb); clear k0 k1 k2 k3 kf0 kf1 kf2 kf3; replace HP := Lib.hid (HP.out.keep hb); clear p0 p1 p2 pf0 pf1 pf2; replace HV := Lib.hid (GnsAt.kept HV.out hb); replace HL := Lib.hid (FdsAt.kept HL.out hb); replace HB5 := Lib.hid (bch' HB5.out hb); replace HB := Lib.hid (bch' HB.out hb); clear hb; obtain ⟨k0, k1, k2, k3, kf0, kf1, kf2, kf3⟩ := HK.out.c4; obtain ⟨p0, p1, p2, pf0, pf1, pf2⟩ := HP.out.c3) | (with_reducible refine ((HMV.out _ _ HV.out HL.out (ENV.out.below HB.out)).mono ?_); rintro e w' ⟨pm, cm, rfl, hmo, hb⟩; have HM : Hid (FdsAt w' (.slice pm 1 cm) LN) := Lib.hid (by have h := OwnR.fds hmo; rw [HL1.out] at h; exact h); clear hmo; replace HK := Lib.hid (HK.out.keep hb); clear k0 k1 k2 k3 kf0 kf1 kf2 kf3; replace HP := Lib.hid (HP.out.keep hb); clear p0 p1 p2 pf0 pf1 pf2; replace HV := Lib.hid (GnsAt.kept HV.out hb); replace HL := Lib.hid (FdsAt.kept HL.out hb); replace HB5 := Lib.hid (bch' HB5.out hb); replace HB := Lib.hid (bch' HB.out hb); clear hb; obtain ⟨k0, k1, k2, k3, kf0, kf1, kf2, kf3⟩ := HK.out.c4; obtain ⟨p0, p1, p2, pf0, pf1, pf2⟩ := HP.out.c3))
                go_wp2_with (first | (with_reducible refine ((HLB.out _ _ HV.out HM.out (ENV.out.below HB.out)).mono ?_); rintro e w' ⟨rfl, hb⟩; replace HK := Lib.hid (HK.out.keep hb); clear k0 k1 k2 k3 kf0 kf1 kf2 kf3; replace HP := Lib.hid (HP.out.keep hb); clear p0 p1 p2 pf0 pf1 pf2; replace HV := Lib.hid (GnsAt.kept HV.out hb); replace HL := Lib.hid (FdsAt.kept HL.out hb); replace HB5 := Lib.hid (bch' HB5.out hb); replace HM := Lib.hid (FdsAt.kept HM.out hb); replace HB := Lib.hid (bch' HB.out hb); clear hb; obtain ⟨k0, k1, k2, k3, kf0, kf1, kf2, kf3⟩ := HK.out.c4; obtain ⟨p0, p1, p2, pf0, pf1, pf2⟩ := HP.out.c3) | (with_reducible refine ((HRL.out _).mono ?_); rintro e w' ⟨rfl, hb⟩; replace HK := Lib.hid (HK.out.keep hb); clear k0 k1 k2 k3 kf0 kf1 kf2 kf3; replace HP := Lib.hid (HP.out.keep hb); clear p0 p1 p2 pf0 pf1 pf2; replace HV := Lib.hid (GnsAt.kept HV.out hb); replace HL := Lib.hid (FdsAt.kept HL.out hb); replace HB5 := Lib.hid (bch' HB5.out hb); replace HM := Lib.hid (FdsAt.kept HM.out hb); replace HB := Lib.hid (bch' HB.out hb); clear hb; obtain ⟨k0, k1, k2, k3, kf0, kf1, kf2, kf3⟩ := HK.out.c4; obtain ⟨p0, p1, p2, pf0, pf1, pf2⟩ := HP.out.c3))
                go_roundw
                case rel => exact ⟨k + 1, r, (t + (ppv ps k).af), pm, cm, LN, by rw [HL1.out], rfl, by first | rfl | simp, Lib.hid (by have := hkr.out; omega), HB5, Lib.hid (by rw [HL1.out]; exact HM.out), HI2⟩
                case measure => first | (simp [intOf]; done) | (simp [intOf]; omega)
              · clear hth ht
                generalize showR (lvlQ nu inh L (t + (ppv ps k).af)) = ta at *
                generalize showR (lvlQ nu inh LN (t + (ppv ps k).af)) = tb at *
                have HLA := Lib.hid hla; clear hla
                have HMV := Lib.hid hmv; clear hmv
                have HLB := Lib.hid hlb; clear hlb
                have HRL := Lib.hid hrl; clear hrl
                go_upto_region 11 with (first | (with_reducible refine ((HLA.out _ _ HV.out HL.out (ENV.out.below HB.out)).mono ?_); rintro e w' ⟨rfl, hb⟩; replace HK := Lib.hid (HK.out.keep hb); clear k0 k1 k2 k3 kf0 kf1 kf2 kf3; replace HP := Lib.hid (HP.out.keep hb); clear p0 p1 p2 pf0 pf1 pf2; replace HV := Lib.hid (GnsAt.kept HV.out hb); replace HL := Lib.hid (FdsAt.kept HL.out hb); replace HB5 := Lib.hid (bch' HB5.out hb); replace HB := Lib.hid (bch' HB.out hb); clear hb; obtain ⟨k0, k1, k2, k3, kf0, kf1, kf2, kf3⟩ := HK.out.c4; obtain ⟨p0, p1, p2, pf0, pf1, pf2⟩ := HP.out.c3) | (with_reducible refine ((HMV.out _ _ HV.out HL.out (ENV.out.below HB.out)).mono ?_); rintro e w' ⟨pm, cm, rfl, hmo, hb⟩; have HM : Hid (FdsAt w' (.slice pm 1 cm) LN) := Lib.hid (by have h := OwnR.fds hmo; rw [HL1.out] at h; exact h); clear hmo; replace HK := Lib.hid (HK.out.keep hb); clear k0 k1 k2 k3 kf0 kf1 kf2 kf3; replace HP := Lib.hid (HP.out.keep hb); clear p0 p1 p2 pf0 pf1 pf2; replace HV := Lib.hid (GnsAt.kept HV.out hb); replace HL := Lib.hid (FdsAt.kept HL.out hb); replace HB5 := Lib.hid (bch' HB5.out hb); replace HB := Lib.hid (bch' HB.out hb); clear hb; obtain ⟨k0, k1, k2, k3, kf0, kf1, kf2, kf3⟩ := HK.out.c4; obtain ⟨p0, p1, p2, pf0, pf1, pf2⟩ := HP.out.c3))
                go_wp2_with (first | (with_reducible refine ((HLB.out _ _ HV.out HM.out (ENV.out.below HB.out)).mono ?_); rintro e w' ⟨rfl, hb⟩; replace HK := Lib.hid (HK.out.keep hb); clear k0 k1 k2 k3 kf0 kf1 kf2 kf3; replace HP := Lib.hid (HP.out.keep hb); clear p0 p1 p2 pf0 pf1 pf2; replace HV := Lib.hid (GnsAt.kept HV.out hb); replace HL := Lib.hid (FdsAt.kept HL.out hb); replace HB5 := Lib.hid (bch' HB5.out hb); replace HM := Lib.hid (FdsAt.kept HM.out hb); replace HB := Lib.hid (bch' HB.out hb); clear hb; obtain ⟨k0, k1, k2, k3, kf0, kf1, kf2, kf3⟩ := HK.out.c4; obtain ⟨p0, p1, p2, pf0, pf1, pf2⟩ := HP.out.c3) | (with_reducible refine ((HRL.out _).mono ?_); rintro e w' ⟨rfl, hb⟩; replace HK := Lib.hid (HK.out.keep hb); clear k0 k1 k2 k3 kf0 kf1 kf2 kf3; replace HP := Lib.hid (HP.out.keep hb); clear p0 p1 p2 pf0 pf1 pf2; replace HV := Lib.hid (GnsAt.kept HV.out hb); replace HL := Lib.hid (FdsAt.kept HL.out hb); replace HB5 := Lib.hid (bch' HB5.out hb); replace HM := Lib.hid (FdsAt.kept HM.out hb); replace HB := Lib.hid (bch' HB.out hb); clear hb; obtain ⟨k0, k1, k2, k3, kf0, kf1, kf2, kf3⟩ := HK.out.c4; obtain ⟨p0, p1, p2, pf0, pf1, pf2⟩ := HP.out.c3))
                go_roundw
                case rel => exact ⟨k + 1, r, (t + (ppv ps k).af), pm, cm, LN, by rw [HL1.out], rfl, by first | rfl | simp, Lib.hid (by have := hkr.out; omega), HB5, Lib.hid (by rw [HL1.out]; exact HM.out), HI2⟩
                case measure => first | (simp [intOf]; done) | (simp [intOf]; omega)
    · have hne : ((subE nu pr inh gs : Int) != 0) = true := by simpa using hs
      clear hs
      generalize subE nu pr inh gs = m at *
      have HCK := Lib.hid hck; clear hck
      go_wp2_with (first | (with_reducible refine ((HCK.out _ HV.out).mono ?_); rintro e w' ⟨rfl, hb⟩; replace HK := Lib.hid (HK.out.keep hb); clear k0 k1 k2 k3 kf0 kf1 kf2 kf3; replace HV := Lib.hid (GnsAt.kept HV.out hb); replace HB := Lib.hid (bch' HB.out hb); clear hb; obtain ⟨k0, k1, k2, k3, kf0, kf1, kf2, kf3⟩ := HK.out.c4) | (with_reducible refine ((HAW.out _ (ENV.out.below HB.out)).mono ?_); rintro e w' ⟨rfl, hb⟩; replace HK := Lib.hid (HK.out.keep hb); clear k0 k1 k2 k3 kf0 kf1 kf2 kf3; replace HV := Lib.hid (GnsAt.kept HV.out hb); replace HB := Lib.hid (bch' HB.out hb); clear hb; obtain ⟨k0, k1, k2, k3, kf0, kf1, kf2, kf3⟩ := HK.out.c4))
      go_ret
      exact ⟨rfl, HB.out⟩
end Go.Proofs.YtkjelfmgnkkijaaGreatDoor
namespace Go.Proofs.YtkjelfmgnkkijaaGreatDoor


open Go.RowKit Go.Shelf Lum Go.ChangeShapes Go.WideShapes Go.ChangeAt Go.Joins
section
variable {H : Type} {enc : TypeId × Value → H} {W : World} {base : Nat} {spare : Nat → Bool} {held : Bool}
set_option maxRecDepth 100000 in
theorem playpush_in {fuel : Nat} {cs : List Value} {x : DataW H × List MemPlace} (h : DataW.trod enc Tryz.prog W base spare held fuel 126 cs = some x) :
    ∃ g : Pp, cs = [.int .u16 g.af, .int .u16 g.ti, .int .u16 g.to_] ∧ PpOk g := by
  obtain ⟨xs, n, -, -, hl, hxl, hf⟩ := DataW.trod_struct Tryz.underlying126 h
  have kc : cs.length = 3 := hl.trans (by kernel_rfl)
  match cs, kc with
  | [c0, c1, c2], _ =>
    match xs, hxl with
    | [y0, y1, y2], _ =>
      have k0 : Tryz.prog.cellsOf 88 = 1 := by kernel_rfl
      have h0 : DataW.trod enc Tryz.prog W base spare held n 88 [c0] = some y0 := by
        have h : DataW.trod enc Tryz.prog W base spare held n 88 (List.take (Tryz.prog.cellsOf 88) (List.drop 0 [c0, c1, c2])) = [y0, y1, y2][0]? := hf 0 _ rfl
        rw [k0] at h
        exact h
      have k1 : Tryz.prog.cellsOf 88 = 1 := by kernel_rfl
      have h1 : DataW.trod enc Tryz.prog W base spare held n 88 [c1] = some y1 := by
        have h : DataW.trod enc Tryz.prog W base spare held n 88 (List.take (Tryz.prog.cellsOf 88) (List.drop 1 [c0, c1, c2])) = [y0, y1, y2][1]? := hf 1 _ rfl
        rw [k1] at h
        exact h
      have k2 : Tryz.prog.cellsOf 88 = 1 := by kernel_rfl
      have h2 : DataW.trod enc Tryz.prog W base spare held n 88 [c2] = some y2 := by
        have h : DataW.trod enc Tryz.prog W base spare held n 88 (List.take (Tryz.prog.cellsOf 88) (List.drop 2 [c0, c1, c2])) = [y0, y1, y2][2]? := hf 2 _ rfl
        rw [k2] at h
        exact h
      obtain ⟨a, e0, -, w0⟩ := DataW.trod_int Tryz.underlying88 h0
      obtain rfl := (List.cons.inj e0).1
      obtain ⟨b, e1, -, w1⟩ := DataW.trod_int Tryz.underlying88 h1
      obtain rfl := (List.cons.inj e1).1
      obtain ⟨c, e2, -, w2⟩ := DataW.trod_int Tryz.underlying88 h2
      obtain rfl := (List.cons.inj e2).1
      exact ⟨⟨a, b, c⟩, rfl, wf_u16 w0, wf_u16 w1, wf_u16 w2⟩

variable {r : Reach} {b0 : Nat} {v : Value} {d : DataW H} {p : List MemPlace}
set_option maxRecDepth 100000 in
theorem open_pushes (hv : Value.okWide Tryz.prog W r b0 124 v) (h : DataW.Trod enc Tryz.prog W base spare held 124 v d p) : ∃ l : List Pp, PpsAt W v l ∧ (∀ i, i < l.length → PpOk (ppv l i)) ∧ l.length ≤ maxLen := by
  obtain ⟨a0, len, cap, rfl⟩ := okWide_slice Tryz.underlying124 hv
  obtain ⟨fuel, hf⟩ := h
  obtain ⟨l, p, c, hcs, hl, hm, hc⟩ := open_els Tryz.underlying124 3 (by kernel_rfl) (by omega) (⟨0, 0, 0⟩ : Pp) (fun cs g => cs = [.int .u16 g.af, .int .u16 g.ti, .int .u16 g.to_] ∧ PpOk g) (fun _ _ _ h => playpush_in h) hf
  obtain h1 := (List.cons.inj hcs).1
  rw [h1]
  refine ⟨l, ⟨p, c, rfl, hl, fun hn => ?_⟩, fun i hi => ?_, by omega⟩
  · obtain ⟨b, o, hp, hb, hc⟩ := hc hn
    refine ⟨b, o, hp, hb, fun i hi => ?_⟩
    obtain ⟨cs', ⟨rfl, -⟩, h1⟩ := hc i hi
    exact ⟨h1 0 _ rfl, h1 1 _ rfl, h1 2 _ rfl⟩
  · obtain ⟨b, o, hp, hb, hc⟩ := hc (fun h => by subst h; simp at hi)
    obtain ⟨cs', ⟨-, h2⟩, -⟩ := hc i hi
    exact h2
end
end Go.Proofs.YtkjelfmgnkkijaaGreatDoor
