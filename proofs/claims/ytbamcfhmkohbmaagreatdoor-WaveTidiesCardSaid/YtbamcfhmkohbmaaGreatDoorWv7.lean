/-
  Waves: Same, Ramp.
-/
import Derived.Test.YtbamcfhmkohbmaaGreatDoorWv2
import Derived.Laws.StructEq
import Derived.BigQuiet
import Derived.Deep.QuietTactic
import Derived.IntWalk
set_option linter.unusedVariables false
set_option linter.unusedSimpArgs false
namespace Lum
open Go Go.RowKit Go.Shelf
open Go.Lib (decDigits itoa)
theorem pts_ext {a b : List (Int × Int)} (hl : a.length = b.length) (h : ∀ j, j < a.length → pX a j = pX b j ∧ pY a j = pY b j) : a = b := by
  refine List.ext_getElem hl fun j h1 h2 => ?_
  obtain ⟨e1, e2⟩ := h j h1
  unfold pX at e1
  unfold pY at e2
  rw [List.getElem?_eq_getElem h1, List.getElem?_eq_getElem h2] at e1 e2
  exact Prod.ext e1 e2
def rampE (low top turn : Int) : Int := if (-1000 ≤ low ∧ low ≤ 1000) ∧ (-1000 ≤ top ∧ top ≤ 1000) ∧ 1 ≤ turn ∧ turn ≤ 999 then 0 else 2
def rampL (low top turn : Int) : List (Int × Int) := if rampE low top turn = 0 then [(0, low), (turn, top), (1000, low)] else []
theorem rampE_bad {low top turn : Int} (h : ¬ ((-1000 ≤ low ∧ low ≤ 1000) ∧ (-1000 ≤ top ∧ top ≤ 1000) ∧ 1 ≤ turn ∧ turn ≤ 999)) : rampE low top turn = 2 ∧ rampL low top turn = [] := by
  have e : rampE low top turn = 2 := by unfold rampE; rw [if_neg h]
  exact ⟨e, by unfold rampL; rw [e, if_neg (by decide)]⟩
theorem rampE_ok {low top turn : Int} (h : (-1000 ≤ low ∧ low ≤ 1000) ∧ (-1000 ≤ top ∧ top ≤ 1000) ∧ 1 ≤ turn ∧ turn ≤ 999) : rampE low top turn = 0 ∧ rampL low top turn = [(0, low), (turn, top), (1000, low)] := by
  have e : rampE low top turn = 0 := by unfold rampE; rw [if_pos h]
  exact ⟨e, by unfold rampL; rw [e, if_pos rfl]⟩
theorem pts_nil (W : World) : PtsAt W (.slice none 0 0) [] := ⟨none, 0, rfl, fun h => absurd rfl h⟩
theorem pts_three (W : World) (a b c d e f : Int) (t : TypeId) : PtsAt (W.alloc (.cells #[.int .i64 a, .int .i64 b, .int .i64 c, .int .i64 d, .int .i64 e, .int .i64 f] t)) (.slice (some ⟨W.heap.size, 0, none⟩) 3 3) [(a, b), (c, d), (e, f)] := by
  refine ⟨_, _, rfl, fun _ => ⟨W.heap.size, 0, rfl, by simp, fun i hi => ?_⟩⟩
  rw [World.cell?_alloc_new, World.cell?_alloc_new]
  match i, hi with
  | 0, _ => exact ⟨rfl, rfl⟩
  | 1, _ => exact ⟨rfl, rfl⟩
  | 2, _ => exact ⟨rfl, rfl⟩
end Lum
namespace Go.Proofs.YtbamcfhmkohbmaaGreatDoor
open Go.RowKit Go.Shelf Lum
open Go.Lib (decDigits itoa)
attribute [local go_sem] bs_get bs_extract_end bs_extract_from bs_extract bs_append

theorem neq_pt (W : World) (a b c d : Int) : (binOp .neq 33 (.agg #[.int .i64 a, .int .i64 b]) (.agg #[.int .i64 c, .int .i64 d])).run Tryz.prog W = .ok (.bool (!((a == c) && (b == d)))) W := by
  have h1 : Tryz.prog.underlying 33 = some (.struct (Tryz.prog.fieldsOf 33)) := by kernel_rfl
  have h2 : Tryz.prog.stoodInHeld 33 = false := by kernel_rfl
  rw [run_neq_struct, run_equalIn_agg W 9999 _ _ _ h1 h2]
  have hf := TypeDesc.struct.inj (Option.some.inj (h1.symm.trans Tryz.underlying33))
  rw [hf]
  simp [Op.eqFields, go_sem, Tryz.underlying3]
  by_cases e1 : a = c
  · by_cases e2 : b = d
    · simp [e1, e2]
    · simp [e1, e2]
  · simp [e1]

set_option maxRecDepth 100000 in
set_option maxHeartbeats 4000000 in
theorem r27_same (la lb : List (Int × Int)) (va vb : Value) (w : World) (ha : PtsAt w va la) (hb : PtsAt w vb lb) (na : la.length ≤ 1000000000) (nb : lb.length ≤ 1000000000) :
    Calls Tryz.prog 61 #[va, vb] w fun e w' => e = .returned (.bool (decide (la = lb))) ∧ Below w.heap.size w w' := by
  obtain ⟨p1, c1, rfl, ha2⟩ := ha
  obtain ⟨p2, c2, rfl, hb2⟩ := hb
  have HB := Lib.hid (Below.refl w.heap.size w)
  obtain ⟨E, hE⟩ : ∃ E, E = decide (la = lb) := ⟨_, rfl⟩
  rw [← hE]
  by_cases hl : la.length = lb.length
  · have HA2 := Lib.hid ha2; clear ha2
    have HB2 := Lib.hid hb2; clear hb2
    have HE := Lib.hid hE; clear hE
    have hl1 : ((la.length : Int) != (lb.length : Int)) = false := by simp [hl]
    have HL := Lib.hid hl; clear hl
    have hneq := fun W a b c d => neq_pt W a b c d
    go_enter Tryz.func61, Tryz.ntmps61
    go_wp2
    go_loopw [5] (fun i wr => ∃ k : Nat, i = .int .i64 (k : Int) ∧ k ≤ la.length ∧ Below w.heap.size w wr ∧ Hid (∀ j, j < k → pX la j = pX lb j ∧ pY la j = pY lb j)) (fun i _ => la.length - (intOf i).toNat)
    case atStart => exact ⟨0, rfl, by omega, HB.out, Lib.hid (fun j h => by omega)⟩
    case round =>
      obtain ⟨k, rfl, hk, hB, hS⟩ := hrel
      have HBW := Lib.hid hB; clear hB HB
      by_cases hlt : k < la.length
      · have hlt1 : (k : Int) < (la.length : Int) := by omega
        have hltb : k < lb.length := by rw [← HL.out]; exact hlt
        obtain ⟨b1, o1, rfl, hb1, hc1⟩ := HA2.out (fun h => by subst h; simp at hlt)
        obtain ⟨b2, o2, rfl, hb2, hc2⟩ := HB2.out (fun h => by subst h; simp at hltb)
        obtain ⟨x1, y1⟩ := PtC.below (l := la) hc1 HBW.out hb1 k hlt
        obtain ⟨x2, y2⟩ := PtC.below (l := lb) hc2 HBW.out hb2 k hltb
        clear hc1 hc2
        have hun : IntKind.i64.wrap ((k : Int) + 1) = (k : Int) + 1 := IntWalk.i64_in _ (by have := HL.out; omega)
        by_cases he : pX la k = pX lb k ∧ pY la k = pY lb k
        · have hq : (!((pX la k == pX lb k) && (pY la k == pY lb k))) = false := by simp [he.1, he.2]
          have hn := fun W => hneq W (pX la k) (pY la k) (pX lb k) (pY lb k)
          rw [hq] at hn
          have HS1 := Lib.hid (show ∀ j, j < k + 1 → pX la j = pX lb j ∧ pY la j = pY lb j from fun j hj => by
            by_cases ej : j = k
            · subst ej; exact he
            · exact hS.out j (by omega))
          clear he hq hneq
          generalize pX la k = X1 at *
          generalize pX lb k = X2 at *
          generalize pY la k = Y1 at *
          generalize pY lb k = Y2 at *
          go_wp2
          go_quiet (fail)
          go_wp2
          go_roundw
          case rel => exact ⟨k + 1, by simp, by omega, below_drewN HBW.out _, HS1⟩
          case measure => simp [intOf]; omega
        · have hq : (!((pX la k == pX lb k) && (pY la k == pY lb k))) = true := by
            simp only [Bool.not_eq_true', Bool.and_eq_false_iff, beq_eq_false_iff_ne]
            by_cases e1 : pX la k = pX lb k
            · exact .inr fun e2 => he ⟨e1, e2⟩
            · exact .inl e1
          have hn := fun W => hneq W (pX la k) (pY la k) (pX lb k) (pY lb k)
          rw [hq] at hn
          have hF : E = false := by rw [HE.out]; exact decide_eq_false fun h => he (by rw [h]; exact ⟨rfl, rfl⟩)
          have HF := Lib.hid hF; clear hF he hq hneq HE
          generalize pX la k = X1 at *
          generalize pX lb k = X2 at *
          generalize pY la k = Y1 at *
          generalize pY lb k = Y2 at *
          go_wp2
          go_quiet (fail)
          go_wp2
          go_ret
          exact ⟨by rw [HF.out]; rfl, below_drewN HBW.out _⟩
      · have hlt1 : ¬ (k : Int) < (la.length : Int) := by omega
        have hF : E = true := by rw [HE.out]; exact decide_eq_true (pts_ext HL.out fun j hj => hS.out j (by omega))
        have HF := Lib.hid hF; clear hF hneq HE
        go_wp2
        go_ret
        exact ⟨by rw [HF.out]; rfl, HBW.out⟩
  · have hl1 : ((la.length : Int) != (lb.length : Int)) = true := by simp; omega
    have hE2 : E = false := by rw [hE]; exact decide_eq_false fun h => hl (by rw [h])
    have HE := Lib.hid hE2; clear hE hE2 hl ha2 hb2
    go_enter Tryz.func61, Tryz.ntmps61
    go_wp2
    go_ret
    exact ⟨by rw [HE.out]; rfl, HB.out⟩

set_option maxRecDepth 100000 in
set_option maxHeartbeats 4000000 in
theorem own_ramp (low top turn : Int) (w : World) :
    Calls Tryz.prog 60 #[.int .i64 low, .int .i64 top, .int .i64 turn] w fun e w' => ∃ v, e = .returned (.tuple #[v, .int .i64 (rampE low top turn)]) ∧ PtsAt w' v (rampL low top turn) ∧ Below w.heap.size w w' := by
  have hlo := own_high low
  have hto := own_high top
  by_cases h1 : -1000 ≤ low ∧ low ≤ 1000
  · rw [decide_eq_true h1] at hlo
    by_cases h2 : -1000 ≤ top ∧ top ≤ 1000
    · rw [decide_eq_true h2] at hto
      have HLO := Lib.hid hlo; clear hlo
      have HTO := Lib.hid hto; clear hto
      by_cases h3 : 1 ≤ turn
      · by_cases h4 : turn ≤ 999
        · obtain ⟨e1, e2⟩ := rampE_ok ⟨h1, h2, h3, h4⟩
          rw [e1, e2]
          have g3 : ¬ turn < 1 := by omega
          have g4 : ¬ 999 < turn := by omega
          clear e1 e2 h1 h2 h3 h4
          go_enter Tryz.func60, Tryz.ntmps60
          go_wp2_with (first | ((with_reducible refine ((HLO.out _).mono ?_)); rintro e w' ⟨rfl, rfl⟩) | ((with_reducible refine ((HTO.out _).mono ?_)); rintro e w' ⟨rfl, rfl⟩))
          go_ret2
          exact ⟨_, rfl, pts_three _ _ _ _ _ _ _ _, (Below.refl _ _).alloc (Nat.le_refl _) _⟩
        · obtain ⟨e1, e2⟩ := rampE_bad (fun h => h4 h.2.2.2 : ¬ ((-1000 ≤ low ∧ low ≤ 1000) ∧ (-1000 ≤ top ∧ top ≤ 1000) ∧ 1 ≤ turn ∧ turn ≤ 999))
          rw [e1, e2]
          have g3 : ¬ turn < 1 := by omega
          have g4 : 999 < turn := by omega
          clear e1 e2 h1 h2 h3 h4
          go_enter Tryz.func60, Tryz.ntmps60
          go_wp2_with (first | ((with_reducible refine ((HLO.out _).mono ?_)); rintro e w' ⟨rfl, rfl⟩) | ((with_reducible refine ((HTO.out _).mono ?_)); rintro e w' ⟨rfl, rfl⟩))
          go_ret2
          exact ⟨_, rfl, pts_nil _, Below.refl _ _⟩
      · obtain ⟨e1, e2⟩ := rampE_bad (fun h => h3 h.2.2.1 : ¬ ((-1000 ≤ low ∧ low ≤ 1000) ∧ (-1000 ≤ top ∧ top ≤ 1000) ∧ 1 ≤ turn ∧ turn ≤ 999))
        rw [e1, e2]
        have g3 : turn < 1 := by omega
        clear e1 e2 h1 h2 h3
        go_enter Tryz.func60, Tryz.ntmps60
        go_wp2_with (first | ((with_reducible refine ((HLO.out _).mono ?_)); rintro e w' ⟨rfl, rfl⟩) | ((with_reducible refine ((HTO.out _).mono ?_)); rintro e w' ⟨rfl, rfl⟩))
        go_ret2
        exact ⟨_, rfl, pts_nil _, Below.refl _ _⟩
    · rw [decide_eq_false h2] at hto
      have HLO := Lib.hid hlo; clear hlo
      have HTO := Lib.hid hto; clear hto
      obtain ⟨e1, e2⟩ := rampE_bad (fun h => h2 h.2.1 : ¬ ((-1000 ≤ low ∧ low ≤ 1000) ∧ (-1000 ≤ top ∧ top ≤ 1000) ∧ 1 ≤ turn ∧ turn ≤ 999))
      rw [e1, e2]
      clear e1 e2 h1 h2
      go_enter Tryz.func60, Tryz.ntmps60
      go_wp2_with (first | ((with_reducible refine ((HLO.out _).mono ?_)); rintro e w' ⟨rfl, rfl⟩) | ((with_reducible refine ((HTO.out _).mono ?_)); rintro e w' ⟨rfl, rfl⟩))
      go_ret2
      exact ⟨_, rfl, pts_nil _, Below.refl _ _⟩
  · rw [decide_eq_false h1] at hlo
    have HLO := Lib.hid hlo; clear hlo hto
    obtain ⟨e1, e2⟩ := rampE_bad (fun h => h1 h.1 : ¬ ((-1000 ≤ low ∧ low ≤ 1000) ∧ (-1000 ≤ top ∧ top ≤ 1000) ∧ 1 ≤ turn ∧ turn ≤ 999))
    rw [e1, e2]
    clear e1 e2 h1
    go_enter Tryz.func60, Tryz.ntmps60
    go_wp2_with ((with_reducible refine ((HLO.out _).mono ?_)); rintro e w' ⟨rfl, rfl⟩)
    go_ret2
    exact ⟨_, rfl, pts_nil _, Below.refl _ _⟩
end Go.Proofs.YtbamcfhmkohbmaaGreatDoor
