/-
  Law 26: bounds, growing, plain; within.
-/
import Derived.Test.YtkjelfmgnkkijaaGreatDoorSg
import Derived.Test.YtkjelfmgnkkijaaGreatDoorSq
set_option linter.unusedVariables false
set_option linter.unusedSimpArgs false
namespace Lum
open Go Go.RowKit Go.Shelf
open Go.Lib (decDigits itoa)
theorem int_le {a b : Int} (h : a ≤ b) : ((a : Int) : Rat) ≤ ((b : Int) : Rat) := Rat.intCast_le_intCast.2 h
theorem fits_lev {g : Int} (h0 : 0 ≤ g) (h1 : g ≤ 65535) : Fits 19 ((g : Int) : Rat) := fits_i64 g (by omega) (by omega)
/-- What two faders give for a gain: the lower nothing, or both something, the lower no more. -/
theorem grows_am {nu pr : Int} {inh : Bool} {gs : List Gn} (hs : SubOk ⟨nu, pr, inh, gs⟩) {a b : Int} (h0 : 0 ≤ a) (h1 : a ≤ b) (h2 : b ≤ 65535) {k : Nat} (hk : k < gs.length) :
    ∃ (tv tw : Txt) (ov ow : Bool), amT nu inh gs [fdN nu a] (gnv gs k).ch (gnv gs k).at_ 5 = (tv, ov) ∧ amT nu inh gs [fdN nu b] (gnv gs k).ch (gnv gs k).at_ 5 = (tw, ow) ∧ (ov = false ∨ (ov = true ∧ ow = true ∧ ∃ p q : Rat, tv = showR p ∧ tw = showR q ∧ p ≤ q ∧ Fits 400 p ∧ Fits 400 q)) := by
  have hg := gns_self hs hk
  obtain ⟨g0, g1⟩ := hs.lev k hk
  dsimp only at hg g0 g1 hk
  have qa := lvlQ_one nu a inh
  have qb := lvlQ_one nu b inh
  by_cases ha : inh = true ∨ lvlQ nu inh [fdN nu a] 5 = 0
  · exact ⟨_, _, false, _, amT_zero hg ha, rfl, .inl rfl⟩
  · have hb : ¬ (inh = true ∨ lvlQ nu inh [fdN nu b] 5 = 0) := by
      rintro (h | h)
      · exact ha (.inl h)
      · rw [qb] at h
        have e := Rat.intCast_inj.1 (h.trans (show (0 : Rat) = ((0 : Int) : Rat) from rfl))
        exact ha (.inr (by rw [qa, show a = 0 by omega]; rfl))
    by_cases hat : (gnv gs k).at_ = 0
    · refine ⟨_, _, true, true, amT_int hg ha hat, amT_int hg hb hat, .inr ⟨rfl, rfl, _, _, rfl, rfl, ?_, ?_, ?_⟩⟩
      · rw [qa, qb]; exact mul_le_r (int_le h1) (part_01 g0 g1 (by decide)).1
      · rw [qa]; exact (fits_mul2 (fits_lev h0 (by omega)) (div65_fits g0 g1)).mono (by omega)
      · rw [qb]; exact (fits_mul2 (fits_lev (by omega) h2) (div65_fits g0 g1)).mono (by omega)
    · exact ⟨_, _, true, true, amT_other hg ha hat, amT_other hg hb hat, .inr ⟨rfl, rfl, _, _, rfl, rfl, Rat.le_refl, (fits_lev g0 g1).mono (by omega), (fits_lev g0 g1).mono (by omega)⟩⟩
theorem facOk_one {nu v : Int} (h : 1 ≤ nu ∧ nu ≤ 1048576) (hv : 0 ≤ v ∧ v ≤ 65535) : FacOk [fdN nu v] := by
  have one : ∀ j, j < [fdN nu v].length → j = 0 := fun j hj => by simpa using hj
  refine ⟨by simp, fun j hj => ?_, fun j hj => ?_, fun j hj => ?_, fun j hj i hi => ?_⟩ <;> obtain rfl := one j hj
  · exact h
  · exact glE_in (show levE [48] = 0 by decide +kernel) ⟨hv, (show (0 : Int) ≤ 0 ∧ (0 : Int) ≤ 10000000 by decide), (show (0 : Int) ≤ 0 ∧ (0 : Int) ≤ 10000000 by decide)⟩
  · show (0 : Int) ≤ 0 ∧ (0 : Int) ≤ 10000000; decide
  · exact absurd hi (Nat.not_lt_zero _)
/-- What a submaster gives at a gain of its own, in all its cases. -/
theorem bounds_am {nu pr t : Int} {inh : Bool} {gs : List Gn} {l : List Fdr} (hs : SubOk ⟨nu, pr, inh, gs⟩) (hf : FacOk l) (hlen : ∀ i, i < l.length → (fdv l i).fr.length ≤ 60) {k : Nat} (hk : k < gs.length) :
    ∃ (tv : Txt) (ov : Bool), amT nu inh gs l (gnv gs k).ch (gnv gs k).at_ t = (tv, ov) ∧ (inh = true → ov = false) ∧ (inh = false → ov = !(showR (lvlQ nu inh l t) == [48])) ∧
      (ov = true → ∃ q : Rat, tv = showR q ∧ 0 ≤ q ∧ q ≤ (((gnv gs k).lev : Int) : Rat) ∧ Fits 400 q ∧ (lvlQ nu inh l t = ((65535 : Int) : Rat) → q = (((gnv gs k).lev : Int) : Rat))) := by
  have hg := gns_self hs hk
  obtain ⟨g0, g1⟩ := hs.lev k hk
  dsimp only at hg g0 g1 hk
  obtain ⟨r0, r1⟩ := lvlQ_range (nu := nu) (inh := inh) hf t
  have fl : Fits 182 (lvlQ nu inh l t) := fadL_fits t (fadG_fg hf) (fadG_len hlen)
  by_cases ha : inh = true ∨ lvlQ nu inh l t = 0
  · refine ⟨_, _, amT_zero hg ha, fun _ => rfl, fun h => ?_, fun h => by cases h⟩
    have h2 := ha.resolve_left (by simp [h])
    rw [h2, showR_zero]; rfl
  · have hn : inh = false := by cases inh <;> simp_all
    have hz : ¬ lvlQ nu inh l t = 0 := fun h => ha (.inr h)
    have ht : (showR (lvlQ nu inh l t) == [48]) = false := by rw [beq_eq_false_iff_ne]; exact fun h => hz (show_zero.1 h)
    by_cases hat : (gnv gs k).at_ = 0
    · obtain ⟨b0, b1⟩ := share_in g0 g1 r0 r1
      refine ⟨_, _, amT_int hg ha hat, fun h => by simp [hn] at h, fun _ => by rw [ht]; rfl, fun _ => ⟨_, rfl, b0, b1, (fits_mul2 fl (div65_fits g0 g1)).mono (by omega), fun h => ?_⟩⟩
      rw [h]; exact share_full _
    · refine ⟨_, _, amT_other hg ha hat, fun h => by simp [hn] at h, fun _ => by rw [ht]; rfl, fun _ => ⟨_, rfl, int_le g0, Rat.le_refl, (fits_lev g0 g1).mono (by omega), fun _ => rfl⟩⟩
end Lum
namespace Go.Proofs.YtkjelfmgnkkijaaGreatDoor
open Go.RowKit Go.Shelf Lum
open Go.Lib (decDigits itoa)
attribute [local go_sem] bs_get bs_extract_end bs_extract_from bs_extract bs_append

set_option maxRecDepth 100000 in
set_option maxHeartbeats 4000000 in
theorem l26_within (q m : Rat) (w : World) (fq : Fits 3600 q) (fm : Fits 3600 m) (q0 : 0 ≤ q) (q1 : q ≤ m) :
    Calls Tryz.prog 43 #[.string ⟨(showR q).toArray⟩, .string ⟨(showR m).toArray⟩] w fun e w' => e = .returned (.bool (true)) ∧ Below w.heap.size w w' := by
  have HB := Lib.hid (Below.refl w.heap.size w)
  have hc := fun W => r2_check (showR q) W (len_ok fq (by omega))
  rw [check_gen fq (by omega)] at hc
  have o1 := fun W => r2_order q 0 W (fq.mono (by omega)) (fits_0.mono (by omega))
  rw [showR_zero] at o1
  have o2 := fun W => r2_order q m W (fq.mono (by omega)) (fm.mono (by omega))
  have s1 : (0 : Int) ≤ sgn q 0 := Int.not_lt.1 fun h => absurd ((sgn_lt _ _).1 h) (Rat.not_lt.2 q0)
  have s2 : sgn q m ≤ (0 : Int) := Int.not_lt.1 fun h => absurd ((sgn_gt _ _).1 h) (Rat.not_lt.2 q1)
  generalize sgn q 0 = z1 at *
  generalize sgn q m = z2 at *
  clear fq fm q0 q1
  generalize showR q = tq at *
  generalize showR m = tm at *
  have HC := Lib.hid hc; clear hc
  have HO1 := Lib.hid o1; clear o1
  have HO2 := Lib.hid o2; clear o2
  go_enter Tryz.func43, Tryz.ntmps43
  go_wp2_with (first | (with_reducible refine ((HC.out _).mono ?_); rintro e w' ⟨rfl, hb⟩; replace HB := Lib.hid (bch' HB.out hb); clear hb) | (with_reducible refine ((HO1.out _).mono ?_); rintro e w' ⟨rfl, hb⟩; replace HB := Lib.hid (bch' HB.out hb); clear hb) | (with_reducible refine ((HO2.out _).mono ?_); rintro e w' ⟨rfl, hb⟩; replace HB := Lib.hid (bch' HB.out hb); clear hb))
  go_ret
  exact ⟨rfl, HB.out⟩
end Go.Proofs.YtkjelfmgnkkijaaGreatDoor
