/-
  Entries: copies, searches, equal lists.
-/
import Derived.Test.YtikogofioggmlaaGreatDoorLu
import Derived.Laws.StructEq
import Derived.Test.YtikogofioggmlaaGreatDoorShelfC
set_option linter.unusedVariables false
set_option linter.unusedSimpArgs false
namespace Lum
open Go Go.RowKit Go.Shelf
open Go.Lib (decDigits itoa)
theorem list_ne_at {α : Type} {a b : List α} {k : Nat} (h1 : k < a.length) (h2 : k < b.length) (h : ¬ a[k]'h1 = b[k]'h2) : ¬ a = b := fun e => by subst e; exact h rfl
theorem list_eq_at {α : Type} {a b : List α} (hl : a.length = b.length) (h : ∀ j (h1 : j < a.length) (h2 : j < b.length), j < a.length → a[j]'h1 = b[j]'h2) : a = b := List.ext_getElem hl fun j h1 h2 => h j h1 h2 h1
def EntsAt (W : World) (v : Value) (l : List Ent) : Prop := ∃ p c, v = .slice p l.length c ∧ RowX encEn 4 W p l
end Lum
namespace Go.Proofs.YtikogofioggmlaaGreatDoor
open Go.RowKit Go.Shelf Lum
open Go.Lib (decDigits itoa)
attribute [local go_sem] bs_get bs_extract_end bs_extract_from bs_extract bs_append

set_option maxRecDepth 100000 in
set_option maxHeartbeats 4000000 in
theorem en_neq_f (W : World) (x y : Ent) (h : x = y) : (binOp .neq 43 (.agg #[.int .i64 (x.ch), .int .i64 (x.at_), .int .i64 (x.pa), .int .i64 (x.lv)]) (.agg #[.int .i64 (y.ch), .int .i64 (y.at_), .int .i64 (y.pa), .int .i64 (y.lv)])).run Tryz.prog W = .ok (.bool false) W := by
  have h1 : Tryz.prog.underlying 43 = some (.struct (Tryz.prog.fieldsOf 43)) := by kernel_rfl
  have h2 : Tryz.prog.stoodInHeld 43 = false := by kernel_rfl
  have hm1 : Tryz.prog.stoodInHeld 39 = false := by kernel_rfl
  have hm2 : Tryz.prog.stoodInHeld 41 = false := by kernel_rfl
  rw [run_neq_struct, run_equalIn_agg W 9999 _ _ _ h1 h2]
  have hf := TypeDesc.struct.inj (Option.some.inj (h1.symm.trans Tryz.underlying43))
  rw [hf]
  subst h
  simp [Op.eqFields, go_sem, hm1, hm2, Tryz.underlying3, Tryz.underlying39, Tryz.underlying41]

set_option maxRecDepth 100000 in
set_option maxHeartbeats 4000000 in
theorem en_neq_t (W : World) (x y : Ent) (h : ¬ x = y) : (binOp .neq 43 (.agg #[.int .i64 (x.ch), .int .i64 (x.at_), .int .i64 (x.pa), .int .i64 (x.lv)]) (.agg #[.int .i64 (y.ch), .int .i64 (y.at_), .int .i64 (y.pa), .int .i64 (y.lv)])).run Tryz.prog W = .ok (.bool true) W := by
  have h1 : Tryz.prog.underlying 43 = some (.struct (Tryz.prog.fieldsOf 43)) := by kernel_rfl
  have h2 : Tryz.prog.stoodInHeld 43 = false := by kernel_rfl
  have hm1 : Tryz.prog.stoodInHeld 39 = false := by kernel_rfl
  have hm2 : Tryz.prog.stoodInHeld 41 = false := by kernel_rfl
  rw [run_neq_struct, run_equalIn_agg W 9999 _ _ _ h1 h2]
  have hf := TypeDesc.struct.inj (Option.some.inj (h1.symm.trans Tryz.underlying43))
  rw [hf]
  obtain ⟨x0, x1, x2, x3⟩ := x; obtain ⟨y0, y1, y2, y3⟩ := y
  simp only [Ent.mk.injEq, not_and] at h
  dsimp only
  by_cases e0 : x0 = y0
  · subst e0
    by_cases e1 : x1 = y1
    · subst e1
      by_cases e2 : x2 = y2
      · subst e2
        by_cases e3 : x3 = y3
        · subst e3
          simp at h
        · simp [Op.eqFields, go_sem, hm1, hm2, e3, Tryz.underlying3, Tryz.underlying39, Tryz.underlying41]
      · simp [Op.eqFields, go_sem, hm1, hm2, e2, Tryz.underlying3, Tryz.underlying39, Tryz.underlying41]
    · simp [Op.eqFields, go_sem, hm1, hm2, e1, Tryz.underlying3, Tryz.underlying39, Tryz.underlying41]
  · simp [Op.eqFields, go_sem, hm1, hm2, e0, Tryz.underlying3, Tryz.underlying39, Tryz.underlying41]

set_option maxRecDepth 100000 in
set_option maxHeartbeats 4000000 in
theorem en_eql_f (W : World) (x y : Ent) (h : ¬ x = y) : (binOp .eql 43 (.agg #[.int .i64 (x.ch), .int .i64 (x.at_), .int .i64 (x.pa), .int .i64 (x.lv)]) (.agg #[.int .i64 (y.ch), .int .i64 (y.at_), .int .i64 (y.pa), .int .i64 (y.lv)])).run Tryz.prog W = .ok (.bool false) W := by
  have h1 : Tryz.prog.underlying 43 = some (.struct (Tryz.prog.fieldsOf 43)) := by kernel_rfl
  have h2 : Tryz.prog.stoodInHeld 43 = false := by kernel_rfl
  have hm1 : Tryz.prog.stoodInHeld 39 = false := by kernel_rfl
  have hm2 : Tryz.prog.stoodInHeld 41 = false := by kernel_rfl
  rw [run_eql_struct, run_equalIn_agg W 9999 _ _ _ h1 h2]
  have hf := TypeDesc.struct.inj (Option.some.inj (h1.symm.trans Tryz.underlying43))
  rw [hf]
  obtain ⟨x0, x1, x2, x3⟩ := x; obtain ⟨y0, y1, y2, y3⟩ := y
  simp only [Ent.mk.injEq, not_and] at h
  dsimp only
  by_cases e0 : x0 = y0
  · subst e0
    by_cases e1 : x1 = y1
    · subst e1
      by_cases e2 : x2 = y2
      · subst e2
        by_cases e3 : x3 = y3
        · subst e3
          simp at h
        · simp [Op.eqFields, go_sem, hm1, hm2, e3, Tryz.underlying3, Tryz.underlying39, Tryz.underlying41]
      · simp [Op.eqFields, go_sem, hm1, hm2, e2, Tryz.underlying3, Tryz.underlying39, Tryz.underlying41]
    · simp [Op.eqFields, go_sem, hm1, hm2, e1, Tryz.underlying3, Tryz.underlying39, Tryz.underlying41]
  · simp [Op.eqFields, go_sem, hm1, hm2, e0, Tryz.underlying3, Tryz.underlying39, Tryz.underlying41]

set_option maxRecDepth 100000 in
set_option maxHeartbeats 4000000 in
theorem en_eql_t (W : World) (x y : Ent) (h : x = y) : (binOp .eql 43 (.agg #[.int .i64 (x.ch), .int .i64 (x.at_), .int .i64 (x.pa), .int .i64 (x.lv)]) (.agg #[.int .i64 (y.ch), .int .i64 (y.at_), .int .i64 (y.pa), .int .i64 (y.lv)])).run Tryz.prog W = .ok (.bool true) W := by
  have h1 : Tryz.prog.underlying 43 = some (.struct (Tryz.prog.fieldsOf 43)) := by kernel_rfl
  have h2 : Tryz.prog.stoodInHeld 43 = false := by kernel_rfl
  have hm1 : Tryz.prog.stoodInHeld 39 = false := by kernel_rfl
  have hm2 : Tryz.prog.stoodInHeld 41 = false := by kernel_rfl
  rw [run_eql_struct, run_equalIn_agg W 9999 _ _ _ h1 h2]
  have hf := TypeDesc.struct.inj (Option.some.inj (h1.symm.trans Tryz.underlying43))
  rw [hf]
  subst h
  simp [Op.eqFields, go_sem, hm1, hm2, Tryz.underlying3, Tryz.underlying39, Tryz.underlying41]

set_option maxRecDepth 100000 in
set_option maxHeartbeats 4000000 in
theorem r15_sameents (a b : List Ent) (u v : Value) (w : World) (hu : EntsAt w u a) (hv : EntsAt w v b) (hn : a.length ≤ 1000000) :
    Calls Tryz.prog 11 #[u, v] w fun e w' => e = .returned (.bool (decide (a = b))) ∧ Below w.heap.size w w' := by
  obtain ⟨p1, c1, rfl, hR1⟩ := hu
  obtain ⟨p2, c2, rfl, hR2⟩ := hv
  have hv1 := Lib.hid hR1; have hv2 := Lib.hid hR2; have HFEW := Lib.hid hn; clear hR1 hR2 hn
  have HB := Lib.hid (Below.refl w.heap.size w)
  by_cases hl : a.length = b.length
  · have hll : ((a.length : Int) != (b.length : Int)) = false := by rw [bne_eq_false_iff_eq]; omega
    have HLE := Lib.hid hl
    clear hl
    go_enter Tryz.func11, Tryz.ntmps11
    go_wp2_with fail
    go_loopw [5] (fun s wr => ∃ k : Nat, s = .int .i64 (k : Int) ∧ k ≤ a.length ∧ Hid (∀ j (h1 : j < a.length) (h2 : j < b.length), j < k → a[j]'h1 = b[j]'h2) ∧ Hid (Below w.heap.size w wr)) (fun s _ => a.length - (intOf s).toNat)
    case atStart => exact ⟨0, rfl, by omega, Lib.hid (fun j _ _ h => absurd h (Nat.not_lt_zero _)), HB⟩
    case round =>
      obtain ⟨k, rfl, hk9, HF, HB2⟩ := hrel
      clear HB
      have HB := HB2; clear HB2
      by_cases hkl : k < a.length
      · have hkb : k < b.length := by have := HLE.out; omega
        have hlt : (k : Int) < (a.length : Int) := by omega
        have hlt2 : (k : Int) < (b.length : Int) := by omega
        have hk0 : (0 : Int) ≤ (k : Int) := by omega
        have hlo : k * 4 < 9223372036854775807 := by have := HFEW.out; omega
        have hun : IntKind.i64.wrap ((k : Int) + 1) = (k : Int) + 1 := IntWalk.i64_in _ (by have := HFEW.out; omega)
        obtain ⟨b1, o1, rfl, hb1, hC1⟩ := hv1.out (fun h => by subst h; exact absurd hkl (Nat.not_lt_zero _))
        obtain ⟨b2, o2, rfl, hb2, hC2⟩ := hv2.out (fun h => by subst h; exact absurd hkb (Nat.not_lt_zero _))
        obtain ⟨x, hx⟩ : ∃ x, x = a[k]'hkl := ⟨_, rfl⟩
        obtain ⟨y, hy⟩ : ∃ y, y = b[k]'hkb := ⟨_, rfl⟩
        have hc1 := hC1 k hkl
        have hc2 := hC2 k hkb
        rw [← hx] at hc1
        rw [← hy] at hc2
        have HCX := Lib.hid hc1; have HCY := Lib.hid hc2; have HB1 := Lib.hid hb1; have HB2_ := Lib.hid hb2; have HX := Lib.hid hx; have HY := Lib.hid hy
        clear hc1 hc2 hb1 hb2 hC1 hC2 hx hy
        go_upto_region 6 with fail
        by_cases hq : x = y
        · have hneqr := fun W => en_neq_f W x y hq
          have HF2 : Hid (∀ j (h1 : j < a.length) (h2 : j < b.length), j < k + 1 → a[j]'h1 = b[j]'h2) := Lib.hid (fun j h1 h2 h => by by_cases e : j = k; (subst e; rw [← HX.out, ← HY.out]; exact hq); exact HF.out j h1 h2 (by omega))
          clear hq
          have r0 := fun p : BelowOf _ => ((bch' HB.out p.h).cell (p := ⟨b1, o1 + k * 4, none⟩) HB1.out).trans (HCX.out 0 _ rfl)
          have r1 := fun p : BelowOf _ => ((bch' HB.out p.h).cell (p := ⟨b1, o1 + k * 4 + 1, none⟩) HB1.out).trans (HCX.out 1 _ rfl)
          have r2 := fun p : BelowOf _ => ((bch' HB.out p.h).cell (p := ⟨b1, o1 + k * 4 + 2, none⟩) HB1.out).trans (HCX.out 2 _ rfl)
          have r3 := fun p : BelowOf _ => ((bch' HB.out p.h).cell (p := ⟨b1, o1 + k * 4 + 3, none⟩) HB1.out).trans (HCX.out 3 _ rfl)
          have e0 := fun p : BelowOf _ => ((bch' HB.out p.h).cell (p := ⟨b2, o2 + k * 4, none⟩) HB2_.out).trans (HCY.out 0 _ rfl)
          have e1 := fun p : BelowOf _ => ((bch' HB.out p.h).cell (p := ⟨b2, o2 + k * 4 + 1, none⟩) HB2_.out).trans (HCY.out 1 _ rfl)
          have e2 := fun p : BelowOf _ => ((bch' HB.out p.h).cell (p := ⟨b2, o2 + k * 4 + 2, none⟩) HB2_.out).trans (HCY.out 2 _ rfl)
          have e3 := fun p : BelowOf _ => ((bch' HB.out p.h).cell (p := ⟨b2, o2 + k * 4 + 3, none⟩) HB2_.out).trans (HCY.out 3 _ rfl)
          have z1 := fun p : BelowOf _ => Nat.lt_of_lt_of_le HB1.out (bch' HB.out p.h).size
          have z2 := fun p : BelowOf _ => Nat.lt_of_lt_of_le HB2_.out (bch' HB.out p.h).size
          refine wp_region_WQ (by kernel_rfl) (by kernel_rfl) ?_
          repeat (refine WQ.step (fun K hK => ?_); go_simp; first | (refine hK.out _ ?_; clear hK K) | (apply Exists.intro; refine ⟨fun _ => ?_, hK.out _ ?_⟩; (first | rfl); clear hK K))
          refine WQ.nil ?_
          intro _ hw'
          obtain ⟨⟨wq, hbq⟩, hw2⟩ := hw'
          subst hw2
          replace HB := Lib.hid (bch' HB.out hbq)
          clear r0 r1 r2 r3 e0 e1 e2 e3 z1 z2
          clear hneqr
          go_wp2_with fail
          go_roundw
          case rel => exact ⟨k + 1, by first | rfl | simp, by omega, HF2, HB⟩
          case measure => first | (simp [intOf]; done) | (simp [intOf]; omega)
        · have hneqr := fun W => en_neq_t W x y hq
          have HE : Hid (decide (a = b) = false) := Lib.hid (decide_eq_false (list_ne_at hkl hkb (by rw [← HX.out, ← HY.out]; exact hq)))
          clear hq
          have r0 := fun p : BelowOf _ => ((bch' HB.out p.h).cell (p := ⟨b1, o1 + k * 4, none⟩) HB1.out).trans (HCX.out 0 _ rfl)
          have r1 := fun p : BelowOf _ => ((bch' HB.out p.h).cell (p := ⟨b1, o1 + k * 4 + 1, none⟩) HB1.out).trans (HCX.out 1 _ rfl)
          have r2 := fun p : BelowOf _ => ((bch' HB.out p.h).cell (p := ⟨b1, o1 + k * 4 + 2, none⟩) HB1.out).trans (HCX.out 2 _ rfl)
          have r3 := fun p : BelowOf _ => ((bch' HB.out p.h).cell (p := ⟨b1, o1 + k * 4 + 3, none⟩) HB1.out).trans (HCX.out 3 _ rfl)
          have e0 := fun p : BelowOf _ => ((bch' HB.out p.h).cell (p := ⟨b2, o2 + k * 4, none⟩) HB2_.out).trans (HCY.out 0 _ rfl)
          have e1 := fun p : BelowOf _ => ((bch' HB.out p.h).cell (p := ⟨b2, o2 + k * 4 + 1, none⟩) HB2_.out).trans (HCY.out 1 _ rfl)
          have e2 := fun p : BelowOf _ => ((bch' HB.out p.h).cell (p := ⟨b2, o2 + k * 4 + 2, none⟩) HB2_.out).trans (HCY.out 2 _ rfl)
          have e3 := fun p : BelowOf _ => ((bch' HB.out p.h).cell (p := ⟨b2, o2 + k * 4 + 3, none⟩) HB2_.out).trans (HCY.out 3 _ rfl)
          have z1 := fun p : BelowOf _ => Nat.lt_of_lt_of_le HB1.out (bch' HB.out p.h).size
          have z2 := fun p : BelowOf _ => Nat.lt_of_lt_of_le HB2_.out (bch' HB.out p.h).size
          refine wp_region_WQ (by kernel_rfl) (by kernel_rfl) ?_
          repeat (refine WQ.step (fun K hK => ?_); go_simp; first | (refine hK.out _ ?_; clear hK K) | (apply Exists.intro; refine ⟨fun _ => ?_, hK.out _ ?_⟩; (first | rfl); clear hK K))
          refine WQ.nil ?_
          intro _ hw'
          obtain ⟨⟨wq, hbq⟩, hw2⟩ := hw'
          subst hw2
          replace HB := Lib.hid (bch' HB.out hbq)
          clear r0 r1 r2 r3 e0 e1 e2 e3 z1 z2
          clear hneqr
          go_wp2_with fail
          go_ret
          exact ⟨by first | (rw [HE.out]; done) | (rw [HE.out]; rfl), HB.out⟩
      · have hlt : ¬ (k : Int) < (a.length : Int) := by omega
        obtain rfl : k = a.length := by omega
        have HE : Hid (decide (a = b) = true) := Lib.hid (decide_eq_true (list_eq_at HLE.out HF.out))
        go_wp2_with fail
        go_ret
        exact ⟨by first | (rw [HE.out]; done) | (rw [HE.out]; rfl), HB.out⟩
  · have hll : ((a.length : Int) != (b.length : Int)) = true := by rw [bne_iff_ne]; omega
    have HE : Hid (decide (a = b) = false) := Lib.hid (decide_eq_false (fun e => hl (by rw [e])))
    go_enter Tryz.func11, Tryz.ntmps11
    go_wp2_with fail
    go_ret
    exact ⟨by first | (rw [HE.out]; done) | (rw [HE.out]; rfl), HB.out⟩

set_option maxRecDepth 100000 in
set_option maxHeartbeats 4000000 in
theorem en1_index (M : FuncId) (fv : Value) (l : List Ent) (pr : Ent → Bool) (pp : Option Addr) (cc base : Nat) (w : World) (hR : RowX encEn 4 w pp l) (hbase : base ≤ w.heap.size) (hn : l.length ≤ 1000000) (hF : ∀ args w, (callFunc M args).run Tryz.prog w = .ok (.enter M args) w)
    (hcm : ∀ x ∈ l, ∀ W, Below base w W → Calls Tryz.prog M #[.agg #[.int .i64 (x.ch), .int .i64 (x.at_), .int .i64 (x.pa), .int .i64 (x.lv)], fv] W fun e w' => e = .returned (.bool (pr x)) ∧ Below W.heap.size W w') :
    Calls Tryz.prog 9 #[.slice pp l.length cc, .func (.func M) #[] #[fv]] w fun e w' => e = .returned (.int .i64 (ixOf pr l)) ∧ Below w.heap.size w w' := by
  have hv2 := Lib.hid hR; clear hR
  have hcc := Lib.hid hcm; clear hcm
  have HB := Lib.hid (Below.refl w.heap.size w)
  go_enter Tryz.func9, Tryz.ntmps9
  go_wp2_with fail
  go_loopw [8] (fun s8 wr => ∃ i r : Nat, s8 = .int .i64 (i : Int) ∧ Hid (i + r = l.length) ∧ Hid (Below w.heap.size w wr) ∧ Hid (∀ j (hj : j < l.length), j < i → pr (l[j]'hj) = false)) (fun s8 _ => l.length - (intOf s8).toNat)
  case atStart => exact ⟨0, l.length, rfl, Lib.hid (by omega), HB, Lib.hid (fun j hj h => absurd h (Nat.not_lt_zero _))⟩
  case round =>
    clear HB
    obtain ⟨i, r, rfl, hkr, HB, HN⟩ := hrel
    cases r with
    | zero =>
      have hlt : ¬ (i : Int) < (l.length : Int) := by have := hkr.out; omega
      have HR : Hid (ixOf pr l = -1) := Lib.hid (ixOf_no fun j hj => HN.out j hj (by have := hkr.out; omega))
      go_wp2_with fail
      go_ret
      exact ⟨by rw [HR.out]; rfl, HB.out⟩
    | succ r =>
      have hkl : i < l.length := by have := hkr.out; omega
      have hlt : (i : Int) < (l.length : Int) := by omega
      have hi0 : (0 : Int) ≤ (i : Int) := by omega
      have hun : IntKind.i64.wrap ((i : Int) + 1) = (i : Int) + 1 := IntWalk.i64_in _ (by omega)
      obtain ⟨b, o, rfl, hb, hC⟩ := hv2.out (fun h => by subst h; exact absurd hkl (Nat.not_lt_zero _))
      obtain ⟨x, hx⟩ : ∃ x, x = l[i]'hkl := ⟨_, rfl⟩
      have hcell := hC i hkl
      rw [← hx] at hcell
      have x0 : wr.cell? ⟨b, o + i * 4, none⟩ = some (.int .i64 (x.ch)) := (HB.out.cell (p := ⟨b, o + i * 4 + 0, none⟩) hb).trans (hcell 0 _ rfl)
      have x1 : wr.cell? ⟨b, o + i * 4 + 1, none⟩ = some (.int .i64 (x.at_)) := (HB.out.cell (p := ⟨b, o + i * 4 + 1, none⟩) hb).trans (hcell 1 _ rfl)
      have x2 : wr.cell? ⟨b, o + i * 4 + 2, none⟩ = some (.int .i64 (x.pa)) := (HB.out.cell (p := ⟨b, o + i * 4 + 2, none⟩) hb).trans (hcell 2 _ rfl)
      have x3 : wr.cell? ⟨b, o + i * 4 + 3, none⟩ = some (.int .i64 (x.lv)) := (HB.out.cell (p := ⟨b, o + i * 4 + 3, none⟩) hb).trans (hcell 3 _ rfl)
      have hcm := hcc.out x (by rw [hx]; exact List.getElem_mem hkl)
      have HBB := Lib.hid (HB.out.mono hbase)
      have hbr : b < wr.heap.size := by have := HB.out.size; omega
      have hlo : i * 4 < 9223372036854775807 := by omega
      have HXE := Lib.hid hx
      have HCM0 := Lib.hid hcm
      clear hC hcell hb hx hcm
      cases hpx : pr x
      · have HN2 : Hid (∀ j (hj : j < l.length), j < i + 1 → pr (l[j]'hj) = false) := Lib.hid (fun j hj h => by by_cases e : j = i; (subst e; rw [← HXE.out]; exact hpx); exact HN.out j hj (by omega))
        have hcm := HCM0.out
        rw [hpx] at hcm
        clear hpx
        have HCM := Lib.hid hcm; clear hcm
        go_wp2_with (first | (with_reducible refine ((HCM.out _ HBB.out).mono ?_); rintro e w' ⟨rfl, hb⟩; replace HB := Lib.hid (bch' HB.out hb); clear hb))
        go_roundw
        case rel => exact ⟨i + 1, r, by first | rfl | simp, Lib.hid (by have := hkr.out; omega), HB, HN2⟩
        case measure => first | (simp [intOf]; done) | (simp [intOf]; omega)
      · have HR : Hid (ixOf pr l = (i : Int)) := Lib.hid (ixOf_at hkl (by rw [← HXE.out]; exact hpx) (fun j hj => HN.out j (by omega) hj))
        have hcm := HCM0.out
        rw [hpx] at hcm
        clear hpx
        have HCM := Lib.hid hcm; clear hcm
        go_wp2_with (first | (with_reducible refine ((HCM.out _ HBB.out).mono ?_); rintro e w' ⟨rfl, hb⟩; replace HB := Lib.hid (bch' HB.out hb); clear hb))
        go_ret
        exact ⟨by rw [HR.out]; rfl, HB.out⟩

set_option maxRecDepth 100000 in
set_option maxHeartbeats 4000000 in
theorem own_eclone (w : World) (l : List Ent) (p : Option Addr) (c : Nat) (hv1 : RowX encEn 4 w p l) (hn : l.length ≤ 1000000) :
    Calls Tryz.prog 7 #[.slice p l.length c] w fun e w' => ∃ pp cc, e = .returned (.slice pp l.length cc) ∧ OwnR encEn 4 w.heap.size 43 w' pp cc l ∧ Below w.heap.size w w' := by
  have hq : ∀ (w : World) (a : Option Addr) (n c n2 c2 : Nat), (binOp .eql 33 (.slice a n c) (.slice none n2 c2)).run Tryz.prog w = .ok (.bool a.isNone) w := fun w a n c n2 c2 => Lib.run_eql_slice_nil w _ _ a n c n2 c2 Tryz.underlying33
  obtain ⟨i0, hi, hz0, hz1, hz2⟩ := info_parts info_eno
  have HN := Lib.hid hn; clear hn
  cases p with
  | none =>
    have h0 : l = [] := by
      by_cases h : l = []
      · exact h
      · obtain ⟨b, o, e, -⟩ := hv1 h; cases e
    clear hv1
    subst h0
    dsimp only [List.length_nil]
    go_enter Tryz.func7, Tryz.ntmps7
    go_wp2_with fail
    go_ret
    exact ⟨none, 0, rfl, OwnR.nil _ _ _, Below.refl _ _⟩
  | some ad =>
    by_cases hl0 : l = []
    · subst hl0
      clear hv1
      dsimp only [List.length_nil]
      go_enter Tryz.func7, Tryz.ntmps7
      have HA : Hid (∀ (j : Nat) (u : Value), (([] : List Ent).flatMap encEn)[j]? = some u → w.cell? (ad.add j) = some u) := Lib.hid (fun j u h => by simp at h)
      go_wp2_with fail
      go_ret
      exact ⟨_, _, rfl, OwnR.made w 43, (Below.refl w.heap.size w).alloc (Nat.le_refl _) _⟩
    obtain ⟨b, off, had, -, hC⟩ := hv1 hl0
    obtain rfl := Option.some.inj had
    have HA : Hid (∀ (j : Nat) (u : Value), (l.flatMap encEn)[j]? = some u → w.cell? ⟨b, off + j, none⟩ = some u) := Lib.hid (flat_cell encEn_len l (fun j => w.cell? ⟨b, off + j, none⟩) (fun i hi j v hv => by have := hC i hi j v hv; rwa [Nat.add_assoc] at this))
    clear hv1 hC
    go_enter Tryz.func7, Tryz.ntmps7
    go_wp2_with (first | (at_builtin; refine wpList_appL rfl _ _ 33 rfl w.heap.size 43 i0 (.agg #[.int .i64 0, .int .i64 0, .int .i64 0, .int .i64 0]) 32 Tryz.underlying33 hi hz0 hz1 hz2 rfl (by decide) (by decide) (some ⟨w.heap.size, 0, none⟩) 0 0 [] rfl _ l b off c encEn_len (fun j u hu => Lib.cell?_alloc_some _ (HA.out j u hu)) (fun y _ => encEn_one y) rfl (OwnR.made w 43) rfl (by have := HN.out; simp; omega) (by simp) ?_; intro p1 c1 w3 hO3 hb3; have HO3 := Lib.hid hO3; have HB3 := Lib.hid hb3; clear hO3 hb3))
    go_ret
    refine ⟨p1, c1, by simp, by simpa using HO3.out, ?_⟩
    exact ((Below.refl w.heap.size w).alloc (Nat.le_refl _) _).trans HB3.out
end Go.Proofs.YtikogofioggmlaaGreatDoor
