/-
  Law 26: Move of the program and of the reference at once; the law SubmasterMoves.
-/
import Derived.Test.YtkjelfmgnkkijaaGreatDoorSg
import Derived.Test.YtkjelfmgnkkijaaGreatDoorSr
set_option linter.unusedVariables false
set_option linter.unusedSimpArgs false
namespace Lum
open Go Go.RowKit Go.Shelf
open Go.Lib (decDigits itoa)
/-- A call that gives faders and a number. -/
def FdsM (W : World) (L : List Fdr) (m : Int) (e : Ending) (w' : World) : Prop := ∃ pp cc, e = .returned (.tuple #[.slice pp L.length cc, .int .i64 m]) ∧ FdsAt w' (.slice pp L.length cc) L ∧ Below W.heap.size W w'
/-- A call that gives faders. -/
def FdsR (W : World) (L : List Fdr) (e : Ending) (w' : World) : Prop := ∃ pp cc, e = .returned (.slice pp L.length cc) ∧ FdsAt w' (.slice pp L.length cc) L ∧ Below W.heap.size W w'
theorem fdsM_nil {W w' : World} {m : Int} {e : Ending} (h : e = .returned (.tuple #[.slice none 0 0, .int .i64 m]) ∧ Below W.heap.size W w') : FdsM W [] m e w' := ⟨none, 0, h.1, fds_nil _, h.2⟩
theorem fdsM_own {W w' : World} {t : TypeId} {L : List Fdr} {m : Int} {e : Ending} (h : ∃ pp cc, e = .returned (.tuple #[.slice pp L.length cc, .int .i64 m]) ∧ OwnR encF 6 W.heap.size t w' pp cc L ∧ Below W.heap.size W w') : FdsM W L m e w' := by
  obtain ⟨pp, cc, h1, h2, h3⟩ := h
  exact ⟨pp, cc, h1, OwnR.fds h2, h3⟩
theorem fdsR_own {W w' : World} {t : TypeId} {L : List Fdr} {e : Ending} (h : ∃ pp cc, e = .returned (.slice pp L.length cc) ∧ OwnR encF 6 W.heap.size t w' pp cc L ∧ Below W.heap.size W w') : FdsR W L e w' := by
  obtain ⟨pp, cc, h1, h2, h3⟩ := h
  exact ⟨pp, cc, h1, OwnR.fds h2, h3⟩
end Lum
namespace Go.Proofs.YtkjelfmgnkkijaaGreatDoor
open Go.RowKit Go.Shelf Lum
open Go.Lib (decDigits itoa)
attribute [local go_sem] bs_get bs_extract_end bs_extract_from bs_extract bs_append

set_option maxRecDepth 100000 in
set_option maxHeartbeats 4000000 in
theorem r26_move_bad (nu pr t xo xi : Int) (inh : Bool) (gs : List Gn) (l : List Fdr) (gv lv : Value) (w : World) (hv : GnsAt w gv gs) (hl : FdsAt w lv l) (hlen : ∀ i, i < l.length → (fdv l i).fr.length ≤ 1000) (hz : ¬ gvE ⟨nu, pr, inh, gs⟩ l = 0) :
    Calls Tryz.prog 33 #[.agg #[.int .i64 nu, .int .i64 pr, .bool (inh), gv], lv, .int .i64 t, .int .i64 xo, .int .i64 xi] w fun e w' => e = .returned (.tuple #[.slice none 0 0, .int .i64 (gvE ⟨nu, pr, inh, gs⟩ l)]) ∧ Below w.heap.size w w' := by
  obtain ⟨pg, cg, rfl⟩ : ∃ pg cg, gv = .slice pg gs.length cg := by obtain ⟨pg, cg, e, -⟩ := hv; exact ⟨pg, cg, e⟩
  have hgv := fun W (h1 : GnsAt W (.slice pg gs.length cg) gs) (h2 : FdsAt W lv l) => r26_given nu pr inh gs l (.slice pg gs.length cg) lv W h1 h2 hlen
  have hne : ((gvE ⟨nu, pr, inh, gs⟩ l : Int) != 0) = true := by simpa using hz
  have hal := (Below.refl w.heap.size w).alloc (Nat.le_refl _) (.cells #[.int .i64 nu, .int .i64 pr, .bool (inh), (.slice pg gs.length cg)] 58)
  have HV := Lib.hid (GnsAt.kept hv hal)
  have HL := Lib.hid (FdsAt.kept hl hal)
  have HB := Lib.hid hal; clear hal
  have HK := Lib.hid (Blk.new w 58 #[.int .i64 nu, .int .i64 pr, .bool (inh), (.slice pg gs.length cg)])
  obtain ⟨k0, k1, k2, k3, kf0, kf1, kf2, kf3⟩ := HK.out.c4
  clear hz hlen hv hl
  generalize gvE ⟨nu, pr, inh, gs⟩ l = m at *
  have HGV := Lib.hid hgv; clear hgv
  go_enter Tryz.func33, Tryz.ntmps33
  go_wp2_with (first | (with_reducible refine ((HGV.out _ HV.out HL.out).mono ?_); rintro e w' ⟨rfl, hb⟩; replace HK := Lib.hid (HK.out.keep hb); clear k0 k1 k2 k3 kf0 kf1 kf2 kf3; replace HV := Lib.hid (GnsAt.kept HV.out hb); replace HL := Lib.hid (FdsAt.kept HL.out hb); replace HB := Lib.hid (bch' HB.out hb); clear hb; obtain ⟨k0, k1, k2, k3, kf0, kf1, kf2, kf3⟩ := HK.out.c4))
  go_ret2
  exact ⟨rfl, HB.out⟩

set_option maxRecDepth 100000 in
set_option maxHeartbeats 4000000 in
theorem r26_move_out (nu pr t xo xi : Int) (inh : Bool) (gs : List Gn) (l : List Fdr) (gv lv : Value) (w : World) (hv : GnsAt w gv gs) (hl : FdsAt w lv l) (hlen : ∀ i, i < l.length → (fdv l i).fr.length ≤ 1000) (hz : gvE ⟨nu, pr, inh, gs⟩ l = 0) (hm : ¬ mvIn t xo xi) :
    Calls Tryz.prog 33 #[.agg #[.int .i64 nu, .int .i64 pr, .bool (inh), gv], lv, .int .i64 t, .int .i64 xo, .int .i64 xi] w fun e w' => e = .returned (.tuple #[.slice none 0 0, .int .i64 2]) ∧ Below w.heap.size w w' := by
  obtain ⟨pg, cg, rfl⟩ : ∃ pg cg, gv = .slice pg gs.length cg := by obtain ⟨pg, cg, e, -⟩ := hv; exact ⟨pg, cg, e⟩
  obtain ⟨hs, hf⟩ := gvE_zero hz
  have hok : SubOk ⟨nu, pr, inh, gs⟩ := subOk hs
  have fok := facOk hf
  have hgv := fun W (h1 : GnsAt W (.slice pg gs.length cg) gs) (h2 : FdsAt W lv l) => r26_given nu pr inh gs l (.slice pg gs.length cg) lv W h1 h2 hlen
  rw [hz] at hgv
  have t1 := fun W => r3_time t W
  have t2 := fun W => r3_whole xo W
  have t3 := fun W => r3_time xi W
  have hal := (Below.refl w.heap.size w).alloc (Nat.le_refl _) (.cells #[.int .i64 nu, .int .i64 pr, .bool (inh), (.slice pg gs.length cg)] 58)
  have HV := Lib.hid (GnsAt.kept hv hal)
  have HL := Lib.hid (FdsAt.kept hl hal)
  have HB := Lib.hid hal; clear hal
  have HK := Lib.hid (Blk.new w 58 #[.int .i64 nu, .int .i64 pr, .bool (inh), (.slice pg gs.length cg)])
  obtain ⟨k0, k1, k2, k3, kf0, kf1, kf2, kf3⟩ := HK.out.c4
  by_cases h1 : 0 ≤ t ∧ t ≤ 10000000
  · rw [decide_eq_true h1] at t1
    by_cases h2 : 0 ≤ xo ∧ xo ≤ 65535
    · rw [decide_eq_true h2] at t2
      by_cases h3 : 0 ≤ xi ∧ xi ≤ 10000000
      · exact absurd ⟨⟨h1, h3⟩, h2⟩ hm
      · rw [decide_eq_false h3] at t3
        clear h1 h2 h3
        clear hz hs hf hok fok hlen hv hl
        clear hm
        have HGV := Lib.hid hgv; clear hgv
        have T1 := Lib.hid t1; clear t1
        have T2 := Lib.hid t2; clear t2
        have T3 := Lib.hid t3; clear t3
        go_enter Tryz.func33, Tryz.ntmps33
        go_wp2_with (first | (with_reducible refine ((HGV.out _ HV.out HL.out).mono ?_); rintro e w' ⟨rfl, hb⟩; replace HK := Lib.hid (HK.out.keep hb); clear k0 k1 k2 k3 kf0 kf1 kf2 kf3; replace HV := Lib.hid (GnsAt.kept HV.out hb); replace HL := Lib.hid (FdsAt.kept HL.out hb); replace HB := Lib.hid (bch' HB.out hb); clear hb; obtain ⟨k0, k1, k2, k3, kf0, kf1, kf2, kf3⟩ := HK.out.c4) | (with_reducible refine ((T1.out _).mono ?_); rintro e w' ⟨rfl, rfl⟩) | (with_reducible refine ((T2.out _).mono ?_); rintro e w' ⟨rfl, rfl⟩) | (with_reducible refine ((T3.out _).mono ?_); rintro e w' ⟨rfl, rfl⟩))
        go_ret2
        exact ⟨rfl, HB.out⟩
    · rw [decide_eq_false h2] at t2
      clear h1 h2
      clear hz hs hf hok fok hlen hv hl
      clear hm
      have HGV := Lib.hid hgv; clear hgv
      have T1 := Lib.hid t1; clear t1
      have T2 := Lib.hid t2; clear t2
      have T3 := Lib.hid t3; clear t3
      go_enter Tryz.func33, Tryz.ntmps33
      go_wp2_with (first | (with_reducible refine ((HGV.out _ HV.out HL.out).mono ?_); rintro e w' ⟨rfl, hb⟩; replace HK := Lib.hid (HK.out.keep hb); clear k0 k1 k2 k3 kf0 kf1 kf2 kf3; replace HV := Lib.hid (GnsAt.kept HV.out hb); replace HL := Lib.hid (FdsAt.kept HL.out hb); replace HB := Lib.hid (bch' HB.out hb); clear hb; obtain ⟨k0, k1, k2, k3, kf0, kf1, kf2, kf3⟩ := HK.out.c4) | (with_reducible refine ((T1.out _).mono ?_); rintro e w' ⟨rfl, rfl⟩) | (with_reducible refine ((T2.out _).mono ?_); rintro e w' ⟨rfl, rfl⟩) | (with_reducible refine ((T3.out _).mono ?_); rintro e w' ⟨rfl, rfl⟩))
      go_ret2
      exact ⟨rfl, HB.out⟩
  · rw [decide_eq_false h1] at t1
    clear h1
    clear hz hs hf hok fok hlen hv hl
    clear hm
    have HGV := Lib.hid hgv; clear hgv
    have T1 := Lib.hid t1; clear t1
    have T2 := Lib.hid t2; clear t2
    have T3 := Lib.hid t3; clear t3
    go_enter Tryz.func33, Tryz.ntmps33
    go_wp2_with (first | (with_reducible refine ((HGV.out _ HV.out HL.out).mono ?_); rintro e w' ⟨rfl, hb⟩; replace HK := Lib.hid (HK.out.keep hb); clear k0 k1 k2 k3 kf0 kf1 kf2 kf3; replace HV := Lib.hid (GnsAt.kept HV.out hb); replace HL := Lib.hid (FdsAt.kept HL.out hb); replace HB := Lib.hid (bch' HB.out hb); clear hb; obtain ⟨k0, k1, k2, k3, kf0, kf1, kf2, kf3⟩ := HK.out.c4) | (with_reducible refine ((T1.out _).mono ?_); rintro e w' ⟨rfl, rfl⟩) | (with_reducible refine ((T2.out _).mono ?_); rintro e w' ⟨rfl, rfl⟩) | (with_reducible refine ((T3.out _).mono ?_); rintro e w' ⟨rfl, rfl⟩))
    go_ret2
    exact ⟨rfl, HB.out⟩

set_option maxRecDepth 100000 in
set_option maxHeartbeats 4000000 in
theorem r26_move_ok (nu pr t xo xi : Int) (inh : Bool) (gs : List Gn) (l L : List Fdr) (gv lv : Value) (w : World) (hv : GnsAt w gv gs) (hl : FdsAt w lv l) (hlen : ∀ i, i < l.length → (fdv l i).fr.length ≤ 1000) (hz : gvE ⟨nu, pr, inh, gs⟩ l = 0) (hm : mvIn t xo xi) (hL : L.length ≤ 16) (hmv : ∀ W, GnsAt W gv gs → FdsAt W lv l → Calls Tryz.prog 101 #[.agg #[.int .i64 nu, .int .i64 pr, .bool (inh), gv], lv, .int .i64 t, .int .i64 xo, .int .i64 xi] W (FdsR W L)) :
    Calls Tryz.prog 33 #[.agg #[.int .i64 nu, .int .i64 pr, .bool (inh), gv], lv, .int .i64 t, .int .i64 xo, .int .i64 xi] w (FdsM w L 0) := by
  obtain ⟨pg, cg, rfl⟩ : ∃ pg cg, gv = .slice pg gs.length cg := by obtain ⟨pg, cg, e, -⟩ := hv; exact ⟨pg, cg, e⟩
  obtain ⟨hs, hf⟩ := gvE_zero hz
  have hok : SubOk ⟨nu, pr, inh, gs⟩ := subOk hs
  have fok := facOk hf
  have hgv := fun W (h1 : GnsAt W (.slice pg gs.length cg) gs) (h2 : FdsAt W lv l) => r26_given nu pr inh gs l (.slice pg gs.length cg) lv W h1 h2 hlen
  rw [hz] at hgv
  have t1 := fun W => r3_time t W
  have t2 := fun W => r3_whole xo W
  have t3 := fun W => r3_time xi W
  obtain ⟨⟨h1, h3⟩, h2⟩ := hm
  rw [decide_eq_true h1] at t1
  rw [decide_eq_true h2] at t2
  rw [decide_eq_true h3] at t3
  have hal := (Below.refl w.heap.size w).alloc (Nat.le_refl _) (.cells #[.int .i64 nu, .int .i64 pr, .bool (inh), (.slice pg gs.length cg)] 58)
  have HV := Lib.hid (GnsAt.kept hv hal)
  have HL := Lib.hid (FdsAt.kept hl hal)
  have HB := Lib.hid hal; clear hal
  have HK := Lib.hid (Blk.new w 58 #[.int .i64 nu, .int .i64 pr, .bool (inh), (.slice pg gs.length cg)])
  obtain ⟨k0, k1, k2, k3, kf0, kf1, kf2, kf3⟩ := HK.out.c4
  have hq : ¬ (16 : Int) < (L.length : Int) := by omega
  clear h1 h2 h3
  clear hz hs hf hok fok hlen hv hl
  have HGV := Lib.hid hgv; clear hgv
  have T1 := Lib.hid t1; clear t1
  have T2 := Lib.hid t2; clear t2
  have T3 := Lib.hid t3; clear t3
  have HMV := Lib.hid hmv; clear hmv
  go_enter Tryz.func33, Tryz.ntmps33
  go_wp2_with (first | (with_reducible refine ((HGV.out _ HV.out HL.out).mono ?_); rintro e w' ⟨rfl, hb⟩; replace HK := Lib.hid (HK.out.keep hb); clear k0 k1 k2 k3 kf0 kf1 kf2 kf3; replace HV := Lib.hid (GnsAt.kept HV.out hb); replace HL := Lib.hid (FdsAt.kept HL.out hb); replace HB := Lib.hid (bch' HB.out hb); clear hb; obtain ⟨k0, k1, k2, k3, kf0, kf1, kf2, kf3⟩ := HK.out.c4) | (with_reducible refine ((T1.out _).mono ?_); rintro e w' ⟨rfl, rfl⟩) | (with_reducible refine ((T2.out _).mono ?_); rintro e w' ⟨rfl, rfl⟩) | (with_reducible refine ((T3.out _).mono ?_); rintro e w' ⟨rfl, rfl⟩) | ((with_reducible refine ((HMV.out _ HV.out HL.out).mono ?_)); rintro e w' ⟨pp, cc, rfl, ho, hb⟩; have HO := Lib.hid ho; clear ho; replace HK := Lib.hid (HK.out.keep hb); clear k0 k1 k2 k3 kf0 kf1 kf2 kf3; replace HV := Lib.hid (GnsAt.kept HV.out hb); replace HL := Lib.hid (FdsAt.kept HL.out hb); replace HB := Lib.hid (bch' HB.out hb); clear hb; obtain ⟨k0, k1, k2, k3, kf0, kf1, kf2, kf3⟩ := HK.out.c4))
  go_ret2
  exact ⟨pp, cc, rfl, HO.out, HB.out⟩

set_option maxRecDepth 100000 in
set_option maxHeartbeats 4000000 in
theorem r26_move_many (nu pr t xo xi : Int) (inh : Bool) (gs : List Gn) (l L : List Fdr) (gv lv : Value) (w : World) (hv : GnsAt w gv gs) (hl : FdsAt w lv l) (hlen : ∀ i, i < l.length → (fdv l i).fr.length ≤ 1000) (hz : gvE ⟨nu, pr, inh, gs⟩ l = 0) (hm : mvIn t xo xi) (hL : 16 < L.length) (hmv : ∀ W, GnsAt W gv gs → FdsAt W lv l → Calls Tryz.prog 101 #[.agg #[.int .i64 nu, .int .i64 pr, .bool (inh), gv], lv, .int .i64 t, .int .i64 xo, .int .i64 xi] W (FdsR W L)) :
    Calls Tryz.prog 33 #[.agg #[.int .i64 nu, .int .i64 pr, .bool (inh), gv], lv, .int .i64 t, .int .i64 xo, .int .i64 xi] w (FdsM w [] 5) := by
  obtain ⟨pg, cg, rfl⟩ : ∃ pg cg, gv = .slice pg gs.length cg := by obtain ⟨pg, cg, e, -⟩ := hv; exact ⟨pg, cg, e⟩
  obtain ⟨hs, hf⟩ := gvE_zero hz
  have hok : SubOk ⟨nu, pr, inh, gs⟩ := subOk hs
  have fok := facOk hf
  have hgv := fun W (h1 : GnsAt W (.slice pg gs.length cg) gs) (h2 : FdsAt W lv l) => r26_given nu pr inh gs l (.slice pg gs.length cg) lv W h1 h2 hlen
  rw [hz] at hgv
  have t1 := fun W => r3_time t W
  have t2 := fun W => r3_whole xo W
  have t3 := fun W => r3_time xi W
  obtain ⟨⟨h1, h3⟩, h2⟩ := hm
  rw [decide_eq_true h1] at t1
  rw [decide_eq_true h2] at t2
  rw [decide_eq_true h3] at t3
  have hal := (Below.refl w.heap.size w).alloc (Nat.le_refl _) (.cells #[.int .i64 nu, .int .i64 pr, .bool (inh), (.slice pg gs.length cg)] 58)
  have HV := Lib.hid (GnsAt.kept hv hal)
  have HL := Lib.hid (FdsAt.kept hl hal)
  have HB := Lib.hid hal; clear hal
  have HK := Lib.hid (Blk.new w 58 #[.int .i64 nu, .int .i64 pr, .bool (inh), (.slice pg gs.length cg)])
  obtain ⟨k0, k1, k2, k3, kf0, kf1, kf2, kf3⟩ := HK.out.c4
  have hq : (16 : Int) < (L.length : Int) := by omega
  clear h1 h2 h3
  clear hz hs hf hok fok hlen hv hl
  have HGV := Lib.hid hgv; clear hgv
  have T1 := Lib.hid t1; clear t1
  have T2 := Lib.hid t2; clear t2
  have T3 := Lib.hid t3; clear t3
  have HMV := Lib.hid hmv; clear hmv
  go_enter Tryz.func33, Tryz.ntmps33
  go_wp2_with (first | (with_reducible refine ((HGV.out _ HV.out HL.out).mono ?_); rintro e w' ⟨rfl, hb⟩; replace HK := Lib.hid (HK.out.keep hb); clear k0 k1 k2 k3 kf0 kf1 kf2 kf3; replace HV := Lib.hid (GnsAt.kept HV.out hb); replace HL := Lib.hid (FdsAt.kept HL.out hb); replace HB := Lib.hid (bch' HB.out hb); clear hb; obtain ⟨k0, k1, k2, k3, kf0, kf1, kf2, kf3⟩ := HK.out.c4) | (with_reducible refine ((T1.out _).mono ?_); rintro e w' ⟨rfl, rfl⟩) | (with_reducible refine ((T2.out _).mono ?_); rintro e w' ⟨rfl, rfl⟩) | (with_reducible refine ((T3.out _).mono ?_); rintro e w' ⟨rfl, rfl⟩) | ((with_reducible refine ((HMV.out _ HV.out HL.out).mono ?_)); rintro e w' ⟨pp, cc, rfl, ho, hb⟩; have HO := Lib.hid ho; clear ho; replace HK := Lib.hid (HK.out.keep hb); clear k0 k1 k2 k3 kf0 kf1 kf2 kf3; replace HV := Lib.hid (GnsAt.kept HV.out hb); replace HL := Lib.hid (FdsAt.kept HL.out hb); replace HB := Lib.hid (bch' HB.out hb); clear hb; obtain ⟨k0, k1, k2, k3, kf0, kf1, kf2, kf3⟩ := HK.out.c4))
  go_ret2
  exact ⟨none, 0, rfl, fds_nil _, HB.out⟩

set_option maxHeartbeats 4000000 in
theorem g26_move (nu pr t xo xi : Int) (inh : Bool) (gs : List Gn) (l : List Fdr) (pg : Option Addr) (cg : Nat) (lv : Value) (hlen : ∀ i, i < l.length → (fdv l i).fr.length ≤ 60) :
    ∃ (L : List Fdr) (m : Int), L.length ≤ 16 ∧ (∀ W, GnsAt W (.slice pg gs.length cg) gs → FdsAt W lv l → Env W → Calls Tryz.prog 32 #[.agg #[.int .i64 nu, .int .i64 pr, .bool (inh), (.slice pg gs.length cg)], lv, .int .i64 t, .int .i64 xo, .int .i64 xi] W (FdsM W L m)) ∧
      (∀ W, GnsAt W (.slice pg gs.length cg) gs → FdsAt W lv l → Calls Tryz.prog 33 #[.agg #[.int .i64 nu, .int .i64 pr, .bool (inh), (.slice pg gs.length cg)], lv, .int .i64 t, .int .i64 xo, .int .i64 xi] W (FdsM W L m)) := by
  by_cases hz : gvE ⟨nu, pr, inh, gs⟩ l = 0
  · obtain ⟨hs, hf⟩ := gvE_zero hz
    have fok := facOk hf
    have hK : ∀ i, i < l.length → (fdv l i).fr.length ≤ 1000 := fun i hi => Nat.le_trans (hlen i hi) (by omega)
    by_cases hm : mvIn t xo xi
    · obtain ⟨i, hit, hb9⟩ := belongs_exists fok nu
      cases hit
      · by_cases hM : l.length = 16
        · refine ⟨[], 5, Nat.zero_le _, fun W h1 h2 e => (own_smove_many nu pr t xo xi inh gs l (.slice pg gs.length cg) lv i W h1 h2 hs hf hK hm hb9 hM e).mono fun _ _ h => fdsM_nil h, fun W h1 h2 => r26_move_many nu pr t xo xi inh gs l (insL l i false (mvF nu inh l t xo xi false)) (.slice pg gs.length cg) lv W h1 h2 hK hz hm ?_ fun W h1 h2 => (r26_moved_new nu pr t xo xi inh gs l (.slice pg gs.length cg) lv i W h1 h2 hK hf hb9).mono fun _ _ h => fdsR_own h⟩
          rw [insL_len_miss hb9.le]; omega
        · refine ⟨(insL l i false (mvF nu inh l t xo xi false)), 0, ?_, fun W h1 h2 e => (own_smove_new nu pr t xo xi inh gs l (.slice pg gs.length cg) lv i W h1 h2 hs hf hK hm hb9 hM e).mono fun _ _ h => fdsM_own h, fun W h1 h2 => r26_move_ok nu pr t xo xi inh gs l (insL l i false (mvF nu inh l t xo xi false)) (.slice pg gs.length cg) lv W h1 h2 hK hz hm ?_ fun W h1 h2 => (r26_moved_new nu pr t xo xi inh gs l (.slice pg gs.length cg) lv i W h1 h2 hK hf hb9 ).mono fun _ _ h => fdsR_own h⟩
          · rw [insL_len_miss hb9.le]; have := fok.few; omega
          · rw [insL_len_miss hb9.le]; have := fok.few; omega
      · by_cases hz0 : lvlQ nu inh l t = 0
        · refine ⟨(insL l i true (mvF nu inh l t xo xi true)), 0, ?_, fun W h1 h2 e => (own_smove_zero nu pr t xo xi inh gs l (.slice pg gs.length cg) lv i W h1 h2 hs hf hK hm hb9 hz0 e).mono fun _ _ h => fdsM_own h, fun W h1 h2 => r26_move_ok nu pr t xo xi inh gs l (insL l i true (mvF nu inh l t xo xi true)) (.slice pg gs.length cg) lv W h1 h2 hK hz hm ?_ fun W h1 h2 => (r26_moved_zero nu pr t xo xi inh gs l (.slice pg gs.length cg) lv i W h1 h2 hK hf hb9 hz0).mono fun _ _ h => fdsR_own h⟩
          · rw [insL_len_hit (hb9.yes rfl).1]; have := fok.few; omega
          · rw [insL_len_hit (hb9.yes rfl).1]; have := fok.few; omega
        · refine ⟨(insL l i true (mvF nu inh l t xo xi true)), 0, ?_, fun W h1 h2 e => (own_smove_on nu pr t xo xi inh gs l (.slice pg gs.length cg) lv i W h1 h2 hs hf hK hm hb9 hz0 e).mono fun _ _ h => fdsM_own h, fun W h1 h2 => r26_move_ok nu pr t xo xi inh gs l (insL l i true (mvF nu inh l t xo xi true)) (.slice pg gs.length cg) lv W h1 h2 hK hz hm ?_ fun W h1 h2 => (r26_moved_on nu pr t xo xi inh gs l (.slice pg gs.length cg) lv i W h1 h2 hK hf hb9 hz0).mono fun _ _ h => fdsR_own h⟩
          · rw [insL_len_hit (hb9.yes rfl).1]; have := fok.few; omega
          · rw [insL_len_hit (hb9.yes rfl).1]; have := fok.few; omega
    · exact ⟨[], 2, Nat.zero_le _, fun W h1 h2 e => (own_smove_out nu pr t xo xi inh gs l (.slice pg gs.length cg) lv W h1 h2 hs hf hK hm e).mono fun _ _ h => fdsM_nil h, fun W h1 h2 => (r26_move_out nu pr t xo xi inh gs l (.slice pg gs.length cg) lv W h1 h2 hK hz hm).mono fun _ _ h => fdsM_nil h⟩
  · exact ⟨[], _, Nat.zero_le _, fun W h1 h2 e => (own_smove_bad nu pr t xo xi inh gs l (.slice pg gs.length cg) lv W h1 h2 (fun i hi => Nat.le_trans (hlen i hi) (by omega)) hz e).mono fun _ _ h => fdsM_nil h, fun W h1 h2 => (r26_move_bad nu pr t xo xi inh gs l (.slice pg gs.length cg) lv W h1 h2 (fun i hi => Nat.le_trans (hlen i hi) (by omega)) hz).mono fun _ _ h => fdsM_nil h⟩

set_option maxRecDepth 100000 in
set_option maxHeartbeats 8000000 in
theorem law_moves (nu pr t xo xi : Int) (inh : Bool) (gs : List Gn) (l : List Fdr) (gv lv : Value) (w : World) (hv : GnsAt w gv gs) (hl : FdsAt w lv l) (env : Env w) :
    Calls Tryz.prog 6 #[.agg #[.int .i64 nu, .int .i64 pr, .bool (inh), gv], lv, .agg #[.int .i64 t, .int .i64 xo, .int .i64 xi]] w fun e w' => e = .returned (.bool (true)) ∧ Below w.heap.size w w' := by
  obtain ⟨pg, cg, rfl⟩ : ∃ pg cg, gv = .slice pg gs.length cg := by obtain ⟨pg, cg, e, -⟩ := hv; exact ⟨pg, cg, e⟩
  have ENV := Lib.hid env; clear env
  have hal := ((Below.refl w.heap.size w).alloc (Nat.le_refl _) (.cells #[.int .i64 nu, .int .i64 pr, .bool (inh), (.slice pg gs.length cg)] 58)).alloc (by simp) (.cells #[.int .i64 t, .int .i64 xo, .int .i64 xi] 59)
  have HB := Lib.hid hal
  have HK := Lib.hid ((Blk.new w 58 #[.int .i64 nu, .int .i64 pr, .bool (inh), (.slice pg gs.length cg)]).alloc (.cells #[.int .i64 t, .int .i64 xo, .int .i64 xi] 59))
  have hR := Blk.new (w.alloc (.cells #[.int .i64 nu, .int .i64 pr, .bool (inh), (.slice pg gs.length cg)] 58)) 59 #[.int .i64 t, .int .i64 xo, .int .i64 xi]
  rw [World.size_alloc] at hR
  have HR := Lib.hid hR; clear hR
  obtain ⟨k0, k1, k2, k3, kf0, kf1, kf2, kf3⟩ := HK.out.c4
  obtain ⟨r0, r1, r2, rf0, rf1, rf2⟩ := HR.out.c3
  have HV0 := Lib.hid hv; have HL0 := Lib.hid hl
  have HV := Lib.hid (GnsAt.kept hv hal)
  have HL := Lib.hid (FdsAt.kept hl hal)
  clear hal hv hl
  have haw := fun W (e : Env W) => l26_awake W e
  have hfe := fun su sv W (h : SbsAt W sv su) => r26_few su sv W h
  have hff := fun W (h : FdsAt W lv l) => r26_fewfaders l lv W h
  have HAW := Lib.hid haw; clear haw
  have HFE := Lib.hid hfe; clear hfe
  have HFF := Lib.hid hff; clear hff
  go_enter Tryz.func6, Tryz.ntmps6
  go_wp2_with fail
  have HN := Lib.hid (blkN2 w (.cells #[.int .i64 nu, .int .i64 pr, .bool (inh), (.slice pg gs.length cg)] 58) (.cells #[.int .i64 t, .int .i64 xo, .int .i64 xi] 59) 58 #[.int .i64 nu, .int .i64 pr, .bool (inh), (.slice pg gs.length cg)])
  generalize (w.alloc (.cells #[.int .i64 nu, .int .i64 pr, .bool (inh), (.slice pg gs.length cg)] 58)).alloc (.cells #[.int .i64 t, .int .i64 xo, .int .i64 xi] 59) = w1 at *
  have hal := (Below.refl w1.heap.size w1).alloc (Nat.le_refl _) (.cells #[.int .i64 nu, .int .i64 pr, .bool (inh), (.slice pg gs.length cg)] 58)
  with_reducible refine ((HFE.out _ _ _ (sbs_one HN.out (GnsAt.kept HV.out hal))).mono ?_)
  rintro e w2 ⟨b1, rfl, -, hb⟩
  replace HK := Lib.hid ((HK.out.keep hal).keep hb)
  clear k0 k1 k2 k3 kf0 kf1 kf2 kf3
  replace HR := Lib.hid ((HR.out.keep hal).keep hb)
  clear r0 r1 r2 rf0 rf1 rf2
  replace HV := Lib.hid (GnsAt.kept (GnsAt.kept HV.out hal) hb)
  replace HL := Lib.hid (FdsAt.kept (FdsAt.kept HL.out hal) hb)
  replace HB := Lib.hid (bch' (bch' HB.out hal) hb)
  clear hal hb HN
  obtain ⟨k0, k1, k2, k3, kf0, kf1, kf2, kf3⟩ := HK.out.c4
  obtain ⟨r0, r1, r2, rf0, rf1, rf2⟩ := HR.out.c3
  cases b1
  · go_wp2_with (first | (with_reducible refine ((HAW.out _ (ENV.out.below HB.out)).mono ?_); rintro e w' ⟨rfl, hb⟩; replace HK := Lib.hid (HK.out.keep hb); clear k0 k1 k2 k3 kf0 kf1 kf2 kf3; replace HR := Lib.hid (HR.out.keep hb); clear r0 r1 r2 rf0 rf1 rf2; replace HV := Lib.hid (GnsAt.kept HV.out hb); replace HL := Lib.hid (FdsAt.kept HL.out hb); replace HB := Lib.hid (bch' HB.out hb); clear hb; obtain ⟨k0, k1, k2, k3, kf0, kf1, kf2, kf3⟩ := HK.out.c4; obtain ⟨r0, r1, r2, rf0, rf1, rf2⟩ := HR.out.c3))
    go_ret
    exact ⟨rfl, HB.out⟩
  · go_wp2_with fail
    refine ((HFF.out _ HL.out).mono ?_)
    rintro e w3 ⟨b2, rfl, hq, hb⟩
    replace HK := Lib.hid (HK.out.keep hb); clear k0 k1 k2 k3 kf0 kf1 kf2 kf3; replace HR := Lib.hid (HR.out.keep hb); clear r0 r1 r2 rf0 rf1 rf2; replace HV := Lib.hid (GnsAt.kept HV.out hb); replace HL := Lib.hid (FdsAt.kept HL.out hb); replace HB := Lib.hid (bch' HB.out hb); clear hb; obtain ⟨k0, k1, k2, k3, kf0, kf1, kf2, kf3⟩ := HK.out.c4; obtain ⟨r0, r1, r2, rf0, rf1, rf2⟩ := HR.out.c3
    cases b2
    · go_wp2_with (first | (with_reducible refine ((HAW.out _ (ENV.out.below HB.out)).mono ?_); rintro e w' ⟨rfl, hb⟩; replace HK := Lib.hid (HK.out.keep hb); clear k0 k1 k2 k3 kf0 kf1 kf2 kf3; replace HR := Lib.hid (HR.out.keep hb); clear r0 r1 r2 rf0 rf1 rf2; replace HV := Lib.hid (GnsAt.kept HV.out hb); replace HL := Lib.hid (FdsAt.kept HL.out hb); replace HB := Lib.hid (bch' HB.out hb); clear hb; obtain ⟨k0, k1, k2, k3, kf0, kf1, kf2, kf3⟩ := HK.out.c4; obtain ⟨r0, r1, r2, rf0, rf1, rf2⟩ := HR.out.c3))
      go_ret
      exact ⟨rfl, HB.out⟩
    · have hlen := hq rfl
      clear hq
      obtain ⟨L, m, hLn, hom, hrm⟩ := g26_move nu pr t xo xi inh gs l pg cg lv hlen
      obtain ⟨tf, mf, hov, hrv⟩ := g26_level nu pr t inh gs l pg cg lv hlen
      have hsf := fun va vb W (h1 : FdsAt W va L) (h2 : FdsAt W vb L) => r26_samefaders L va vb W h1 h2 (by omega)
      clear hlen hLn
      have HOM := Lib.hid hom; clear hom
      have HRM := Lib.hid hrm; clear hrm
      have HOV := Lib.hid hov; clear hov
      have HRV := Lib.hid hrv; clear hrv
      have HSF := Lib.hid hsf; clear hsf
      go_wp2_with (first | ((with_reducible refine ((HOM.out _ HV.out HL.out (ENV.out.below HB.out)).mono ?_)); rintro e w' ⟨p1, c1, rfl, ha, hb⟩; replace HK := Lib.hid (HK.out.keep hb); clear k0 k1 k2 k3 kf0 kf1 kf2 kf3; replace HR := Lib.hid (HR.out.keep hb); clear r0 r1 r2 rf0 rf1 rf2; replace HV := Lib.hid (GnsAt.kept HV.out hb); replace HL := Lib.hid (FdsAt.kept HL.out hb); replace HB := Lib.hid (bch' HB.out hb); clear hb; obtain ⟨k0, k1, k2, k3, kf0, kf1, kf2, kf3⟩ := HK.out.c4; obtain ⟨r0, r1, r2, rf0, rf1, rf2⟩ := HR.out.c3; have HA := Lib.hid ha; clear ha) | ((with_reducible refine ((HRM.out _ HV.out HL.out).mono ?_)); rintro e w' ⟨p2, c2, rfl, hc, hb⟩; replace HK := Lib.hid (HK.out.keep hb); clear k0 k1 k2 k3 kf0 kf1 kf2 kf3; replace HR := Lib.hid (HR.out.keep hb); clear r0 r1 r2 rf0 rf1 rf2; replace HV := Lib.hid (GnsAt.kept HV.out hb); replace HL := Lib.hid (FdsAt.kept HL.out hb); replace HA := Lib.hid (FdsAt.kept HA.out hb); replace HB := Lib.hid (bch' HB.out hb); clear hb; obtain ⟨k0, k1, k2, k3, kf0, kf1, kf2, kf3⟩ := HK.out.c4; obtain ⟨r0, r1, r2, rf0, rf1, rf2⟩ := HR.out.c3; have HC := Lib.hid hc; clear hc) | (with_reducible refine ((HOV.out _ HV.out HL.out (ENV.out.below HB.out)).mono ?_); rintro e w' ⟨rfl, hb⟩; replace HK := Lib.hid (HK.out.keep hb); clear k0 k1 k2 k3 kf0 kf1 kf2 kf3; replace HR := Lib.hid (HR.out.keep hb); clear r0 r1 r2 rf0 rf1 rf2; replace HV := Lib.hid (GnsAt.kept HV.out hb); replace HL := Lib.hid (FdsAt.kept HL.out hb); replace HA := Lib.hid (FdsAt.kept HA.out hb); replace HC := Lib.hid (FdsAt.kept HC.out hb); replace HB := Lib.hid (bch' HB.out hb); clear hb; obtain ⟨k0, k1, k2, k3, kf0, kf1, kf2, kf3⟩ := HK.out.c4; obtain ⟨r0, r1, r2, rf0, rf1, rf2⟩ := HR.out.c3) | (with_reducible refine ((HRV.out _ HV.out HL.out).mono ?_); rintro e w' ⟨rfl, hb⟩; replace HK := Lib.hid (HK.out.keep hb); clear k0 k1 k2 k3 kf0 kf1 kf2 kf3; replace HR := Lib.hid (HR.out.keep hb); clear r0 r1 r2 rf0 rf1 rf2; replace HV := Lib.hid (GnsAt.kept HV.out hb); replace HL := Lib.hid (FdsAt.kept HL.out hb); replace HA := Lib.hid (FdsAt.kept HA.out hb); replace HC := Lib.hid (FdsAt.kept HC.out hb); replace HB := Lib.hid (bch' HB.out hb); clear hb; obtain ⟨k0, k1, k2, k3, kf0, kf1, kf2, kf3⟩ := HK.out.c4; obtain ⟨r0, r1, r2, rf0, rf1, rf2⟩ := HR.out.c3) | (with_reducible refine ((HAW.out _ (ENV.out.below HB.out)).mono ?_); rintro e w' ⟨rfl, hb⟩; replace HK := Lib.hid (HK.out.keep hb); clear k0 k1 k2 k3 kf0 kf1 kf2 kf3; replace HR := Lib.hid (HR.out.keep hb); clear r0 r1 r2 rf0 rf1 rf2; replace HV := Lib.hid (GnsAt.kept HV.out hb); replace HL := Lib.hid (FdsAt.kept HL.out hb); replace HA := Lib.hid (FdsAt.kept HA.out hb); replace HC := Lib.hid (FdsAt.kept HC.out hb); replace HB := Lib.hid (bch' HB.out hb); clear hb; obtain ⟨k0, k1, k2, k3, kf0, kf1, kf2, kf3⟩ := HK.out.c4; obtain ⟨r0, r1, r2, rf0, rf1, rf2⟩ := HR.out.c3) | (with_reducible refine ((HSF.out _ _ _ HA.out HC.out).mono ?_); rintro e w' ⟨rfl, hb⟩; replace HK := Lib.hid (HK.out.keep hb); clear k0 k1 k2 k3 kf0 kf1 kf2 kf3; replace HR := Lib.hid (HR.out.keep hb); clear r0 r1 r2 rf0 rf1 rf2; replace HV := Lib.hid (GnsAt.kept HV.out hb); replace HL := Lib.hid (FdsAt.kept HL.out hb); replace HA := Lib.hid (FdsAt.kept HA.out hb); replace HC := Lib.hid (FdsAt.kept HC.out hb); replace HB := Lib.hid (bch' HB.out hb); clear hb; obtain ⟨k0, k1, k2, k3, kf0, kf1, kf2, kf3⟩ := HK.out.c4; obtain ⟨r0, r1, r2, rf0, rf1, rf2⟩ := HR.out.c3))
      go_ret
      exact ⟨rfl, HB.out⟩
end Go.Proofs.YtkjelfmgnkkijaaGreatDoor
