/-
  Law 26: the program and the reference at once; the law SubmasterGives.
-/
import Derived.Test.YtkjelfmgnkkijaaGreatDoorSe
import Derived.Test.YtkjelfmgnkkijaaGreatDoorNf
set_option linter.unusedVariables false
set_option linter.unusedSimpArgs false
namespace Lum
open Go Go.RowKit Go.Shelf
open Go.Lib (decDigits itoa)
theorem sbs_one {W : World} {g : Nat} {t : TypeId} {nu pr : Int} {inh : Bool} {gv : Value} {gs : List Gn} (h : Blk W g t #[.int .i64 nu, .int .i64 pr, .bool inh, gv]) (hg : GnsAt W gv gs) : SbsAt W (.slice (some ⟨g, 0, none⟩) 1 1) [⟨nu, pr, inh, gs⟩] := by
  refine ⟨_, _, rfl, Nat.le_refl _, fun _ => ⟨g, 0, rfl, h.lt, fun i hi => ?_⟩⟩
  match i, hi with
  | 0, _ => exact ⟨h.c4.1, h.c4.2.1, h.c4.2.2.1, gv, h.c4.2.2.2.1, hg⟩
theorem blkN2 (w : World) (o p : Obj) (t : TypeId) (cs : Array Value) : Blk (((w.alloc o).alloc p).alloc (.cells cs t)) (w.heap.size + 1 + 1) t cs := by
  have h := Blk.new ((w.alloc o).alloc p) t cs
  rwa [World.size_alloc, World.size_alloc] at h
theorem parE_ch {ch a : Int} (h : parE ch a = 0) : parE ch 0 = 0 := parE_in (by have := parE_zero h; omega)
theorem parE_cases (ch : Int) : (parE ch 0 = 0 ∧ 1 ≤ ch ∧ ch ≤ 999) ∨ (parE ch 0 = 2 ∧ (ch < 1 ∨ 999 < ch)) := by
  by_cases h : ch < 1 ∨ 999 < ch
  · exact .inr ⟨parE_out (by omega), h⟩
  · exact .inl ⟨parE_in (by omega), by omega, by omega⟩
end Lum
namespace Go.Proofs.YtkjelfmgnkkijaaGreatDoor
open Go.RowKit Go.Shelf Lum
open Go.Lib (decDigits itoa)
attribute [local go_sem] bs_get bs_extract_end bs_extract_from bs_extract bs_append

theorem g26_amount (nu pr ch a t : Int) (inh : Bool) (gs : List Gn) (l : List Fdr) (pg : Option Addr) (cg : Nat) (lv : Value) (hlen : ∀ i, i < l.length → (fdv l i).fr.length ≤ 60) :
    ∃ (tx : Txt) (b : Bool) (m : Int), (∀ W, GnsAt W (.slice pg gs.length cg) gs → FdsAt W lv l → Env W → Calls Tryz.prog 37 #[.agg #[.int .i64 nu, .int .i64 pr, .bool (inh), (.slice pg gs.length cg)], lv, .agg #[.int .i64 ch, .int .i64 a], .int .i64 t] W fun e w' => e = .returned (.tuple #[.string ⟨(tx).toArray⟩, .bool (b), .int .i64 m]) ∧ Below W.heap.size W w') ∧
      (∀ W, GnsAt W (.slice pg gs.length cg) gs → FdsAt W lv l → Calls Tryz.prog 38 #[.agg #[.int .i64 nu, .int .i64 pr, .bool (inh), (.slice pg gs.length cg)], lv, .agg #[.int .i64 ch, .int .i64 a], .int .i64 t] W fun e w' => e = .returned (.tuple #[.string ⟨(tx).toArray⟩, .bool (b), .int .i64 m]) ∧ Below W.heap.size W w') := by
  by_cases hz : gvE ⟨nu, pr, inh, gs⟩ l = 0
  · obtain ⟨hs, hf⟩ := gvE_zero hz
    by_cases hp : parE ch a = 0
    · exact ⟨_, _, 0, fun W h1 h2 e => own_samount_ok nu pr ch a t inh gs l (.slice pg gs.length cg) lv W h1 h2 hs hf hlen hp e, fun W h1 h2 => r26_amount_ok nu pr ch a t inh gs l (.slice pg gs.length cg) lv W h1 h2 hlen hz hp⟩
    · exact ⟨[], false, _, fun W h1 h2 e => own_samount_par nu pr ch a t inh gs l (.slice pg gs.length cg) lv W h1 h2 hs hf hlen hp e, fun W h1 h2 => r26_amount_par nu pr ch a t inh gs l (.slice pg gs.length cg) lv W h1 h2 hlen hz hp⟩
  · exact ⟨[], false, _, fun W h1 h2 e => own_samount_bad nu pr ch a t inh gs l (.slice pg gs.length cg) lv W h1 h2 (fun i hi => Nat.le_trans (hlen i hi) (by omega)) hz e, fun W h1 h2 => r26_amount_bad nu pr ch a t inh gs l (.slice pg gs.length cg) lv W h1 h2 (fun i hi => Nat.le_trans (hlen i hi) (by omega)) hz⟩

theorem g26_factor (nu pr ch t : Int) (inh : Bool) (gs : List Gn) (l : List Fdr) (pg : Option Addr) (cg : Nat) (lv : Value) (hlen : ∀ i, i < l.length → (fdv l i).fr.length ≤ 60) :
    ∃ (tx : Txt) (m : Int), (∀ W, GnsAt W (.slice pg gs.length cg) gs → FdsAt W lv l → Env W → Calls Tryz.prog 39 #[.agg #[.int .i64 nu, .int .i64 pr, .bool (inh), (.slice pg gs.length cg)], lv, .int .i64 ch, .int .i64 t] W fun e w' => e = .returned (.tuple #[.string ⟨(tx).toArray⟩, .int .i64 m]) ∧ Below W.heap.size W w') ∧
      (∀ W, GnsAt W (.slice pg gs.length cg) gs → FdsAt W lv l → Calls Tryz.prog 40 #[.agg #[.int .i64 nu, .int .i64 pr, .bool (inh), (.slice pg gs.length cg)], lv, .int .i64 ch, .int .i64 t] W fun e w' => e = .returned (.tuple #[.string ⟨(tx).toArray⟩, .int .i64 m]) ∧ Below W.heap.size W w') := by
  by_cases hz : gvE ⟨nu, pr, inh, gs⟩ l = 0
  · obtain ⟨hs, hf⟩ := gvE_zero hz
    rcases parE_cases ch with ⟨hp, h1, h2⟩ | ⟨hp, h3⟩
    · exact ⟨_, 0, fun W h1 h2 e => own_sfactor nu pr ch t inh gs l (.slice pg gs.length cg) lv W h1 h2 hs hf hlen hp e, fun W h3 h4 => r26_factor_ok nu pr ch t inh gs l (.slice pg gs.length cg) lv W h3 h4 hlen hz h1 h2⟩
    · refine ⟨[], 2, fun W h1 h2 e => ?_, fun W h1 h2 => r26_factor_ch nu pr ch t inh gs l (.slice pg gs.length cg) lv W h1 h2 hlen hz h3⟩
      have h := own_sfactor_ch nu pr ch t inh gs l (.slice pg gs.length cg) lv W h1 h2 hs hf hlen (by rw [hp]; decide) e
      rw [hp] at h
      exact h
  · exact ⟨[], _, fun W h1 h2 e => own_sfactor_bad nu pr ch t inh gs l (.slice pg gs.length cg) lv W h1 h2 (fun i hi => Nat.le_trans (hlen i hi) (by omega)) hz e, fun W h1 h2 => r26_factor_bad nu pr ch t inh gs l (.slice pg gs.length cg) lv W h1 h2 (fun i hi => Nat.le_trans (hlen i hi) (by omega)) hz⟩

theorem g26_level (nu pr t : Int) (inh : Bool) (gs : List Gn) (l : List Fdr) (pg : Option Addr) (cg : Nat) (lv : Value) (hlen : ∀ i, i < l.length → (fdv l i).fr.length ≤ 60) :
    ∃ (tx : Txt) (m : Int), (∀ W, GnsAt W (.slice pg gs.length cg) gs → FdsAt W lv l → Env W → Calls Tryz.prog 34 #[.agg #[.int .i64 nu, .int .i64 pr, .bool (inh), (.slice pg gs.length cg)], lv, .int .i64 t] W fun e w' => e = .returned (.tuple #[.string ⟨(tx).toArray⟩, .int .i64 m]) ∧ Below W.heap.size W w') ∧
      (∀ W, GnsAt W (.slice pg gs.length cg) gs → FdsAt W lv l → Calls Tryz.prog 35 #[.agg #[.int .i64 nu, .int .i64 pr, .bool (inh), (.slice pg gs.length cg)], lv, .int .i64 t] W fun e w' => e = .returned (.tuple #[.string ⟨(tx).toArray⟩, .int .i64 m]) ∧ Below W.heap.size W w') := by
  by_cases hz : gvE ⟨nu, pr, inh, gs⟩ l = 0
  · obtain ⟨hs, hf⟩ := gvE_zero hz
    exact ⟨_, 0, fun W h1 h2 e => own_slev_ok nu pr t inh gs l (.slice pg gs.length cg) lv W h1 h2 hs hf (fun i hi => Nat.le_trans (hlen i hi) (by omega)) e, fun W h1 h2 => r26_lev_ok nu pr t inh gs l (.slice pg gs.length cg) lv W h1 h2 (fun i hi => Nat.le_trans (hlen i hi) (by omega)) hz⟩
  · exact ⟨[], _, fun W h1 h2 e => own_slev_bad nu pr t inh gs l (.slice pg gs.length cg) lv W h1 h2 (fun i hi => Nat.le_trans (hlen i hi) (by omega)) hz e, fun W h1 h2 => r26_lev_bad nu pr t inh gs l (.slice pg gs.length cg) lv W h1 h2 (fun i hi => Nat.le_trans (hlen i hi) (by omega)) hz⟩

set_option maxRecDepth 100000 in
set_option maxHeartbeats 8000000 in
theorem law_gives (nu pr ch a t : Int) (inh : Bool) (gs : List Gn) (l : List Fdr) (gv lv : Value) (w : World) (hv : GnsAt w gv gs) (hl : FdsAt w lv l) (env : Env w) :
    Calls Tryz.prog 7 #[.agg #[.int .i64 nu, .int .i64 pr, .bool (inh), gv], lv, .agg #[.int .i64 ch, .int .i64 a, .int .i64 t]] w fun e w' => e = .returned (.bool (true)) ∧ Below w.heap.size w w' := by
  obtain ⟨pg, cg, rfl⟩ : ∃ pg cg, gv = .slice pg gs.length cg := by obtain ⟨pg, cg, e, -⟩ := hv; exact ⟨pg, cg, e⟩
  have ENV := Lib.hid env; clear env
  have hal := ((Below.refl w.heap.size w).alloc (Nat.le_refl _) (.cells #[.int .i64 nu, .int .i64 pr, .bool (inh), (.slice pg gs.length cg)] 58)).alloc (by simp) (.cells #[.int .i64 ch, .int .i64 a, .int .i64 t] 74)
  have HB := Lib.hid hal
  have HK := Lib.hid ((Blk.new w 58 #[.int .i64 nu, .int .i64 pr, .bool (inh), (.slice pg gs.length cg)]).alloc (.cells #[.int .i64 ch, .int .i64 a, .int .i64 t] 74))
  have hR := Blk.new (w.alloc (.cells #[.int .i64 nu, .int .i64 pr, .bool (inh), (.slice pg gs.length cg)] 58)) 74 #[.int .i64 ch, .int .i64 a, .int .i64 t]
  rw [World.size_alloc] at hR
  have HR := Lib.hid hR; clear hR
  obtain ⟨k0, k1, k2, k3, kf0, kf1, kf2, kf3⟩ := HK.out.c4
  obtain ⟨r0, r1, r2, rf0, rf1, rf2⟩ := HR.out.c3
  have HV0 := Lib.hid hv; have HL0 := Lib.hid hl
  have HV := Lib.hid (GnsAt.kept hv hal)
  have HL := Lib.hid (FdsAt.kept hl hal)
  clear hal hv hl
  have haw := fun W (e : Env W) => l26_awake W e
  have hfe := fun su sv W (h : SbsAt W sv su) => r26_few su sv W h
  have hff := fun W (h : FdsAt W lv l) => r26_fewfaders l lv W h
  have HAW := Lib.hid haw; clear haw
  have HFE := Lib.hid hfe; clear hfe
  have HFF := Lib.hid hff; clear hff
  go_enter Tryz.func7, Tryz.ntmps7
  go_wp2_with fail
  have HN := Lib.hid (blkN2 w (.cells #[.int .i64 nu, .int .i64 pr, .bool (inh), (.slice pg gs.length cg)] 58) (.cells #[.int .i64 ch, .int .i64 a, .int .i64 t] 74) 58 #[.int .i64 nu, .int .i64 pr, .bool (inh), (.slice pg gs.length cg)])
  generalize (w.alloc (.cells #[.int .i64 nu, .int .i64 pr, .bool (inh), (.slice pg gs.length cg)] 58)).alloc (.cells #[.int .i64 ch, .int .i64 a, .int .i64 t] 74) = w1 at *
  have hal := (Below.refl w1.heap.size w1).alloc (Nat.le_refl _) (.cells #[.int .i64 nu, .int .i64 pr, .bool (inh), (.slice pg gs.length cg)] 58)
  with_reducible refine ((HFE.out _ _ _ (sbs_one HN.out (GnsAt.kept HV.out hal))).mono ?_)
  rintro e w2 ⟨b1, rfl, -, hb⟩
  replace HK := Lib.hid ((HK.out.keep hal).keep hb)
  clear k0 k1 k2 k3 kf0 kf1 kf2 kf3
  replace HR := Lib.hid ((HR.out.keep hal).keep hb)
  clear r0 r1 r2 rf0 rf1 rf2
  replace HV := Lib.hid (GnsAt.kept (GnsAt.kept HV.out hal) hb)
  replace HL := Lib.hid (FdsAt.kept (FdsAt.kept HL.out hal) hb)
  replace HB := Lib.hid (bch' (bch' HB.out hal) hb)
  clear hal hb HN
  obtain ⟨k0, k1, k2, k3, kf0, kf1, kf2, kf3⟩ := HK.out.c4
  obtain ⟨r0, r1, r2, rf0, rf1, rf2⟩ := HR.out.c3
  cases b1
  · go_wp2_with (first | (with_reducible refine ((HAW.out _ (ENV.out.below HB.out)).mono ?_); rintro e w' ⟨rfl, hb⟩; replace HK := Lib.hid (HK.out.keep hb); clear k0 k1 k2 k3 kf0 kf1 kf2 kf3; replace HR := Lib.hid (HR.out.keep hb); clear r0 r1 r2 rf0 rf1 rf2; replace HV := Lib.hid (GnsAt.kept HV.out hb); replace HL := Lib.hid (FdsAt.kept HL.out hb); replace HB := Lib.hid (bch' HB.out hb); clear hb; obtain ⟨k0, k1, k2, k3, kf0, kf1, kf2, kf3⟩ := HK.out.c4; obtain ⟨r0, r1, r2, rf0, rf1, rf2⟩ := HR.out.c3))
    go_ret
    exact ⟨rfl, HB.out⟩
  · go_wp2_with fail
    refine ((HFF.out _ HL.out).mono ?_)
    rintro e w3 ⟨b2, rfl, hq, hb⟩
    replace HK := Lib.hid (HK.out.keep hb); clear k0 k1 k2 k3 kf0 kf1 kf2 kf3; replace HR := Lib.hid (HR.out.keep hb); clear r0 r1 r2 rf0 rf1 rf2; replace HV := Lib.hid (GnsAt.kept HV.out hb); replace HL := Lib.hid (FdsAt.kept HL.out hb); replace HB := Lib.hid (bch' HB.out hb); clear hb; obtain ⟨k0, k1, k2, k3, kf0, kf1, kf2, kf3⟩ := HK.out.c4; obtain ⟨r0, r1, r2, rf0, rf1, rf2⟩ := HR.out.c3
    cases b2
    · go_wp2_with (first | (with_reducible refine ((HAW.out _ (ENV.out.below HB.out)).mono ?_); rintro e w' ⟨rfl, hb⟩; replace HK := Lib.hid (HK.out.keep hb); clear k0 k1 k2 k3 kf0 kf1 kf2 kf3; replace HR := Lib.hid (HR.out.keep hb); clear r0 r1 r2 rf0 rf1 rf2; replace HV := Lib.hid (GnsAt.kept HV.out hb); replace HL := Lib.hid (FdsAt.kept HL.out hb); replace HB := Lib.hid (bch' HB.out hb); clear hb; obtain ⟨k0, k1, k2, k3, kf0, kf1, kf2, kf3⟩ := HK.out.c4; obtain ⟨r0, r1, r2, rf0, rf1, rf2⟩ := HR.out.c3))
      go_ret
      exact ⟨rfl, HB.out⟩
    · have hlen := hq rfl
      clear hq
      obtain ⟨tx, bo, m, hoa, hra⟩ := g26_amount nu pr ch a t inh gs l pg cg lv hlen
      obtain ⟨tf, mf, hof, hrf⟩ := g26_factor nu pr ch t inh gs l pg cg lv hlen
      clear hlen
      have HOA := Lib.hid hoa; clear hoa
      have HRA := Lib.hid hra; clear hra
      have HOF := Lib.hid hof; clear hof
      have HRF := Lib.hid hrf; clear hrf
      cases bo
      · go_wp2_with (first | (with_reducible refine ((HOA.out _ HV.out HL.out (ENV.out.below HB.out)).mono ?_); rintro e w' ⟨rfl, hb⟩; replace HK := Lib.hid (HK.out.keep hb); clear k0 k1 k2 k3 kf0 kf1 kf2 kf3; replace HR := Lib.hid (HR.out.keep hb); clear r0 r1 r2 rf0 rf1 rf2; replace HV := Lib.hid (GnsAt.kept HV.out hb); replace HL := Lib.hid (FdsAt.kept HL.out hb); replace HB := Lib.hid (bch' HB.out hb); clear hb; obtain ⟨k0, k1, k2, k3, kf0, kf1, kf2, kf3⟩ := HK.out.c4; obtain ⟨r0, r1, r2, rf0, rf1, rf2⟩ := HR.out.c3) | (with_reducible refine ((HRA.out _ HV.out HL.out).mono ?_); rintro e w' ⟨rfl, hb⟩; replace HK := Lib.hid (HK.out.keep hb); clear k0 k1 k2 k3 kf0 kf1 kf2 kf3; replace HR := Lib.hid (HR.out.keep hb); clear r0 r1 r2 rf0 rf1 rf2; replace HV := Lib.hid (GnsAt.kept HV.out hb); replace HL := Lib.hid (FdsAt.kept HL.out hb); replace HB := Lib.hid (bch' HB.out hb); clear hb; obtain ⟨k0, k1, k2, k3, kf0, kf1, kf2, kf3⟩ := HK.out.c4; obtain ⟨r0, r1, r2, rf0, rf1, rf2⟩ := HR.out.c3) | (with_reducible refine ((HOF.out _ HV.out HL.out (ENV.out.below HB.out)).mono ?_); rintro e w' ⟨rfl, hb⟩; replace HK := Lib.hid (HK.out.keep hb); clear k0 k1 k2 k3 kf0 kf1 kf2 kf3; replace HR := Lib.hid (HR.out.keep hb); clear r0 r1 r2 rf0 rf1 rf2; replace HV := Lib.hid (GnsAt.kept HV.out hb); replace HL := Lib.hid (FdsAt.kept HL.out hb); replace HB := Lib.hid (bch' HB.out hb); clear hb; obtain ⟨k0, k1, k2, k3, kf0, kf1, kf2, kf3⟩ := HK.out.c4; obtain ⟨r0, r1, r2, rf0, rf1, rf2⟩ := HR.out.c3) | (with_reducible refine ((HRF.out _ HV.out HL.out).mono ?_); rintro e w' ⟨rfl, hb⟩; replace HK := Lib.hid (HK.out.keep hb); clear k0 k1 k2 k3 kf0 kf1 kf2 kf3; replace HR := Lib.hid (HR.out.keep hb); clear r0 r1 r2 rf0 rf1 rf2; replace HV := Lib.hid (GnsAt.kept HV.out hb); replace HL := Lib.hid (FdsAt.kept HL.out hb); replace HB := Lib.hid (bch' HB.out hb); clear hb; obtain ⟨k0, k1, k2, k3, kf0, kf1, kf2, kf3⟩ := HK.out.c4; obtain ⟨r0, r1, r2, rf0, rf1, rf2⟩ := HR.out.c3) | (with_reducible refine ((HAW.out _ (ENV.out.below HB.out)).mono ?_); rintro e w' ⟨rfl, hb⟩; replace HK := Lib.hid (HK.out.keep hb); clear k0 k1 k2 k3 kf0 kf1 kf2 kf3; replace HR := Lib.hid (HR.out.keep hb); clear r0 r1 r2 rf0 rf1 rf2; replace HV := Lib.hid (GnsAt.kept HV.out hb); replace HL := Lib.hid (FdsAt.kept HL.out hb); replace HB := Lib.hid (bch' HB.out hb); clear hb; obtain ⟨k0, k1, k2, k3, kf0, kf1, kf2, kf3⟩ := HK.out.c4; obtain ⟨r0, r1, r2, rf0, rf1, rf2⟩ := HR.out.c3))
        go_ret
        exact ⟨rfl, HB.out⟩
      · go_wp2_with (first | (with_reducible refine ((HOA.out _ HV.out HL.out (ENV.out.below HB.out)).mono ?_); rintro e w' ⟨rfl, hb⟩; replace HK := Lib.hid (HK.out.keep hb); clear k0 k1 k2 k3 kf0 kf1 kf2 kf3; replace HR := Lib.hid (HR.out.keep hb); clear r0 r1 r2 rf0 rf1 rf2; replace HV := Lib.hid (GnsAt.kept HV.out hb); replace HL := Lib.hid (FdsAt.kept HL.out hb); replace HB := Lib.hid (bch' HB.out hb); clear hb; obtain ⟨k0, k1, k2, k3, kf0, kf1, kf2, kf3⟩ := HK.out.c4; obtain ⟨r0, r1, r2, rf0, rf1, rf2⟩ := HR.out.c3) | (with_reducible refine ((HRA.out _ HV.out HL.out).mono ?_); rintro e w' ⟨rfl, hb⟩; replace HK := Lib.hid (HK.out.keep hb); clear k0 k1 k2 k3 kf0 kf1 kf2 kf3; replace HR := Lib.hid (HR.out.keep hb); clear r0 r1 r2 rf0 rf1 rf2; replace HV := Lib.hid (GnsAt.kept HV.out hb); replace HL := Lib.hid (FdsAt.kept HL.out hb); replace HB := Lib.hid (bch' HB.out hb); clear hb; obtain ⟨k0, k1, k2, k3, kf0, kf1, kf2, kf3⟩ := HK.out.c4; obtain ⟨r0, r1, r2, rf0, rf1, rf2⟩ := HR.out.c3) | (with_reducible refine ((HOF.out _ HV.out HL.out (ENV.out.below HB.out)).mono ?_); rintro e w' ⟨rfl, hb⟩; replace HK := Lib.hid (HK.out.keep hb); clear k0 k1 k2 k3 kf0 kf1 kf2 kf3; replace HR := Lib.hid (HR.out.keep hb); clear r0 r1 r2 rf0 rf1 rf2; replace HV := Lib.hid (GnsAt.kept HV.out hb); replace HL := Lib.hid (FdsAt.kept HL.out hb); replace HB := Lib.hid (bch' HB.out hb); clear hb; obtain ⟨k0, k1, k2, k3, kf0, kf1, kf2, kf3⟩ := HK.out.c4; obtain ⟨r0, r1, r2, rf0, rf1, rf2⟩ := HR.out.c3) | (with_reducible refine ((HRF.out _ HV.out HL.out).mono ?_); rintro e w' ⟨rfl, hb⟩; replace HK := Lib.hid (HK.out.keep hb); clear k0 k1 k2 k3 kf0 kf1 kf2 kf3; replace HR := Lib.hid (HR.out.keep hb); clear r0 r1 r2 rf0 rf1 rf2; replace HV := Lib.hid (GnsAt.kept HV.out hb); replace HL := Lib.hid (FdsAt.kept HL.out hb); replace HB := Lib.hid (bch' HB.out hb); clear hb; obtain ⟨k0, k1, k2, k3, kf0, kf1, kf2, kf3⟩ := HK.out.c4; obtain ⟨r0, r1, r2, rf0, rf1, rf2⟩ := HR.out.c3) | (with_reducible refine ((HAW.out _ (ENV.out.below HB.out)).mono ?_); rintro e w' ⟨rfl, hb⟩; replace HK := Lib.hid (HK.out.keep hb); clear k0 k1 k2 k3 kf0 kf1 kf2 kf3; replace HR := Lib.hid (HR.out.keep hb); clear r0 r1 r2 rf0 rf1 rf2; replace HV := Lib.hid (GnsAt.kept HV.out hb); replace HL := Lib.hid (FdsAt.kept HL.out hb); replace HB := Lib.hid (bch' HB.out hb); clear hb; obtain ⟨k0, k1, k2, k3, kf0, kf1, kf2, kf3⟩ := HK.out.c4; obtain ⟨r0, r1, r2, rf0, rf1, rf2⟩ := HR.out.c3))
        go_ret
        exact ⟨rfl, HB.out⟩
end Go.Proofs.YtkjelfmgnkkijaaGreatDoor
