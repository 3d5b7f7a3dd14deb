/-
  The law's own words.
-/
import Derived.Test.YtikogofioggmlaaGreatDoorLv
set_option linter.unusedVariables false
set_option linter.unusedSimpArgs false
namespace Go.Proofs.YtikogofioggmlaaGreatDoor
open Go.RowKit Go.Shelf Lum
open Go.Lib (decDigits itoa)
attribute [local go_sem] bs_get bs_extract_end bs_extract_from bs_extract bs_append

theorem pm_eql_t (W : World) (a b c d : Int) (h : a = c ∧ b = d) : (binOp .eql 39 (.agg #[.int .i64 a, .int .i64 b]) (.agg #[.int .i64 c, .int .i64 d])).run Tryz.prog W = .ok (.bool true) W := by
  obtain ⟨rfl, rfl⟩ := h
  have h1 : Tryz.prog.underlying 39 = some (.struct (Tryz.prog.fieldsOf 39)) := by kernel_rfl
  have h2 : Tryz.prog.stoodInHeld 39 = false := by kernel_rfl
  rw [run_eql_struct, run_equalIn_agg W 9999 _ _ _ h1 h2]
  have hf := TypeDesc.struct.inj (Option.some.inj (h1.symm.trans Tryz.underlying39))
  rw [hf]
  simp [Op.eqFields, go_sem, Tryz.underlying3]
theorem pm_eql_f (W : World) (a b c d : Int) (h : ¬ (a = c ∧ b = d)) : (binOp .eql 39 (.agg #[.int .i64 a, .int .i64 b]) (.agg #[.int .i64 c, .int .i64 d])).run Tryz.prog W = .ok (.bool false) W := by
  have h1 : Tryz.prog.underlying 39 = some (.struct (Tryz.prog.fieldsOf 39)) := by kernel_rfl
  have h2 : Tryz.prog.stoodInHeld 39 = false := by kernel_rfl
  rw [run_eql_struct, run_equalIn_agg W 9999 _ _ _ h1 h2]
  have hf := TypeDesc.struct.inj (Option.some.inj (h1.symm.trans Tryz.underlying39))
  rw [hf]
  by_cases e1 : a = c
  · have e2 : ¬ b = d := fun g => h ⟨e1, g⟩
    simp [Op.eqFields, go_sem, Tryz.underlying3, e1, e2]
  · simp [Op.eqFields, go_sem, Tryz.underlying3, e1]
set_option maxRecDepth 100000 in
set_option maxHeartbeats 4000000 in
theorem r15_home (w : World) :
    Calls Tryz.prog 16 #[] w fun e w' => e = .returned (.agg #[.int .i64 (-1), .int .i64 0]) ∧ Below w.heap.size w w' := by
  have HN := Blk.new w 41 #[.int .i64 (-1), .int .i64 0]
  obtain ⟨n0, n1, nf0, nf1⟩ := HN.c2
  have HV := Lib.hid (Blk.new w 41 #[.int .i64 0, .int .i64 0])
  have HB := Lib.hid ((Below.refl w.heap.size w).alloc (Nat.le_refl _) (.cells #[.int .i64 0, .int .i64 0] 41))
  obtain ⟨v0, v1, vf0, vf1⟩ := HV.out.c2
  go_enter Tryz.func16, Tryz.ntmps16
  go_wp2_with fail
  refine bodyPost_ret_by (v := .agg #[.int .i64 (-1), .int .i64 0]) (by simp [results, Tryz.f16, go_sem, n0, n1, nf0, nf1]) rfl ⟨rfl, (Below.refl _ _).alloc (Nat.le_refl _) _⟩

set_option maxRecDepth 100000 in
set_option maxHeartbeats 4000000 in
theorem r15_at (l : Int) (w : World) :
    Calls Tryz.prog 15 #[.int .i64 l] w fun e w' => e = .returned (.agg #[.int .i64 0, .int .i64 l]) ∧ Below w.heap.size w w' := by
  have HN := Blk.new w 41 #[.int .i64 0, .int .i64 l]
  obtain ⟨n0, n1, nf0, nf1⟩ := HN.c2
  have HV := Lib.hid (Blk.new w 41 #[.int .i64 0, .int .i64 0])
  have HB := Lib.hid ((Below.refl w.heap.size w).alloc (Nat.le_refl _) (.cells #[.int .i64 0, .int .i64 0] 41))
  obtain ⟨v0, v1, vf0, vf1⟩ := HV.out.c2
  go_enter Tryz.func15, Tryz.ntmps15
  go_wp2_with fail
  refine bodyPost_ret_by (v := .agg #[.int .i64 0, .int .i64 l]) (by simp [results, Tryz.f15, go_sem, n0, n1, nf0, nf1]) rfl ⟨rfl, (Below.refl _ _).alloc (Nat.le_refl _) _⟩

set_option maxRecDepth 100000 in
set_option maxHeartbeats 4000000 in
theorem l18_move (ch a l : Int) (w : World) :
    Calls Tryz.prog 24 #[.int .i64 ch, .int .i64 a, .int .i64 l] w fun e w' => e = .returned (.agg #[.int .i64 ch, .int .i64 a, .int .i64 0, .int .i64 l, .int .i64 1]) ∧ Below w.heap.size w w' := by
  have HV := Lib.hid (Blk.new w 61 #[.int .i64 0, .int .i64 0, .int .i64 0, .int .i64 0, .int .i64 0])
  have HB := Lib.hid ((Below.refl w.heap.size w).alloc (Nat.le_refl _) (.cells #[.int .i64 0, .int .i64 0, .int .i64 0, .int .i64 0, .int .i64 0] 61))
  obtain ⟨v0, v1, v2, v3, v4, vf0, vf1, vf2, vf3, vf4⟩ := HV.out.c5
  go_enter Tryz.func24, Tryz.ntmps24
  go_wp2_with (first | (with_reducible refine ((r15_at _ _).mono ?_); rintro e w' ⟨rfl, hb⟩; replace HV := Lib.hid (HV.out.keep hb); clear v0 v1 v2 v3 v4 vf0 vf1 vf2 vf3 vf4; replace HB := Lib.hid (bch' HB.out hb); clear hb; obtain ⟨v0, v1, v2, v3, v4, vf0, vf1, vf2, vf3, vf4⟩ := HV.out.c5))
  refine bodyPost_ret_by (v := .agg #[.int .i64 ch, .int .i64 a, .int .i64 0, .int .i64 l, .int .i64 1]) (by simp [results, Tryz.f24, go_sem, v0, v1, v2, v3, v4, vf0, vf1, vf2, vf3, vf4]) rfl ⟨rfl, ?_⟩
  exact (((((HB.out).setCell (p := ⟨w.heap.size, 0, none⟩) (Nat.le_refl _) _).setCell (p := ⟨w.heap.size, 1, none⟩) (Nat.le_refl _) _).setCell (p := ⟨w.heap.size, 2, none⟩) (Nat.le_refl _) _).setCell (p := ⟨w.heap.size, 3, none⟩) (Nat.le_refl _) _).setCell (p := ⟨w.heap.size, 4, none⟩) (Nat.le_refl _) _

set_option maxRecDepth 100000 in
set_option maxHeartbeats 4000000 in
theorem cl_tchain (x y : Ent) (g : Nat) (w : World) (hg : Blk w g 43 #[.int .i64 (y.ch), .int .i64 (y.at_), .int .i64 (y.pa), .int .i64 (y.lv)]) :
    Calls Tryz.prog 10 #[.agg #[.int .i64 (x.ch), .int .i64 (x.at_), .int .i64 (x.pa), .int .i64 (x.lv)], .pointer (some ⟨g, 0, none⟩)] w fun e w' => e = .returned (.bool (x.ky == y.ky)) ∧ Below w.heap.size w w' := by
  have HG0 := Lib.hid hg; clear hg
  have HK := Lib.hid (Blk.new w 43 #[.int .i64 (x.ch), .int .i64 (x.at_), .int .i64 (x.pa), .int .i64 (x.lv)])
  have HB := Lib.hid ((Below.refl w.heap.size w).alloc (Nat.le_refl _) (.cells #[.int .i64 (x.ch), .int .i64 (x.at_), .int .i64 (x.pa), .int .i64 (x.lv)] 43))
  obtain ⟨k0, k1, k2, k3, kf0, kf1, kf2, kf3⟩ := HK.out.c4
  have HG := Lib.hid (HG0.out.keep HB.out)
  obtain ⟨g0, g1, g2, g3, gf0, gf1, gf2, gf3⟩ := HG.out.c4
  by_cases h : x.ch = y.ch ∧ x.at_ = y.at_
  · have HE : Hid ((x.ky == y.ky) = true) := Lib.hid (by unfold Ent.ky; rw [h.1, h.2]; simp)
    have heq := fun W => pm_eql_t W x.ch x.at_ y.ch y.at_ h
    clear h
    go_enter Tryz.func10, Tryz.ntmps10
    go_wp2_with fail
    go_ret
    exact ⟨by rw [HE.out]; rfl, HB.out⟩
  · have HE : Hid ((x.ky == y.ky) = false) := Lib.hid (by unfold Ent.ky; rw [beq_eq_false_iff_ne]; intro e; injection e with e1 e2; exact h ⟨e1, e2⟩)
    have heq := fun W => pm_eql_f W x.ch x.at_ y.ch y.at_ h
    clear h
    go_enter Tryz.func10, Tryz.ntmps10
    go_wp2_with fail
    go_ret
    exact ⟨by rw [HE.out]; rfl, HB.out⟩
end Go.Proofs.YtikogofioggmlaaGreatDoor
