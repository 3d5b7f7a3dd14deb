/-
  A movement and a place handed in, opened.
-/
import Derived.Test.YtkjelfmgnkkijaaGreatDoorOp
set_option linter.unusedVariables false
set_option linter.unusedSimpArgs false
namespace Go.Proofs.YtkjelfmgnkkijaaGreatDoor


open Go.RowKit Go.Shelf Lum Go.ChangeShapes Go.WideShapes Go.ChangeAt Go.Joins
section
variable {H : Type} {enc : TypeId × Value → H} {W : World} {base : Nat} {spare : Nat → Bool} {held : Bool}
set_option maxRecDepth 100000 in
theorem push26_in {fuel : Nat} {cs : List Value} {x : DataW H × List MemPlace} (h : DataW.trod enc Tryz.prog W base spare held fuel 59 cs = some x) :
    ∃ (a b c : Int), cs = [.int .i64 a, .int .i64 b, .int .i64 c] ∧ (-9223372036854775808 ≤ a ∧ a ≤ 9223372036854775807) ∧ (-9223372036854775808 ≤ b ∧ b ≤ 9223372036854775807) ∧ (-9223372036854775808 ≤ c ∧ c ≤ 9223372036854775807) := by
  obtain ⟨xs, n, -, -, hl, hxl, hf⟩ := DataW.trod_struct Tryz.underlying59 h
  have kc : cs.length = 3 := hl.trans (by kernel_rfl)
  match cs, kc with
  | [c0, c1, c2], _ =>
    match xs, hxl with
    | [y0, y1, y2], _ =>
      have k0 : Tryz.prog.cellsOf 3 = 1 := by kernel_rfl
      have h0 : DataW.trod enc Tryz.prog W base spare held n 3 [c0] = some y0 := by
        have h : DataW.trod enc Tryz.prog W base spare held n 3 (List.take (Tryz.prog.cellsOf 3) (List.drop 0 [c0, c1, c2])) = [y0, y1, y2][0]? := hf 0 _ rfl
        rw [k0] at h
        exact h
      have k1 : Tryz.prog.cellsOf 3 = 1 := by kernel_rfl
      have h1 : DataW.trod enc Tryz.prog W base spare held n 3 [c1] = some y1 := by
        have h : DataW.trod enc Tryz.prog W base spare held n 3 (List.take (Tryz.prog.cellsOf 3) (List.drop 1 [c0, c1, c2])) = [y0, y1, y2][1]? := hf 1 _ rfl
        rw [k1] at h
        exact h
      have k2 : Tryz.prog.cellsOf 3 = 1 := by kernel_rfl
      have h2 : DataW.trod enc Tryz.prog W base spare held n 3 [c2] = some y2 := by
        have h : DataW.trod enc Tryz.prog W base spare held n 3 (List.take (Tryz.prog.cellsOf 3) (List.drop 2 [c0, c1, c2])) = [y0, y1, y2][2]? := hf 2 _ rfl
        rw [k2] at h
        exact h
      obtain ⟨a, e0, -, w0⟩ := DataW.trod_int Tryz.underlying3 h0
      obtain rfl := (List.cons.inj e0).1
      obtain ⟨b, e1, -, w1⟩ := DataW.trod_int Tryz.underlying3 h1
      obtain rfl := (List.cons.inj e1).1
      obtain ⟨c, e2, -, w2⟩ := DataW.trod_int Tryz.underlying3 h2
      obtain rfl := (List.cons.inj e2).1
      exact ⟨a, b, c, rfl, wf_i64 w0, wf_i64 w1, wf_i64 w2⟩

set_option maxRecDepth 100000 in
theorem place_in {fuel : Nat} {cs : List Value} {x : DataW H × List MemPlace} (h : DataW.trod enc Tryz.prog W base spare held fuel 74 cs = some x) :
    ∃ (a b c : Int), cs = [.int .i64 a, .int .i64 b, .int .i64 c] ∧ (-9223372036854775808 ≤ a ∧ a ≤ 9223372036854775807) ∧ (-9223372036854775808 ≤ b ∧ b ≤ 9223372036854775807) ∧ (-9223372036854775808 ≤ c ∧ c ≤ 9223372036854775807) := by
  obtain ⟨xs, n, -, -, hl, hxl, hf⟩ := DataW.trod_struct Tryz.underlying74 h
  have kc : cs.length = 3 := hl.trans (by kernel_rfl)
  match cs, kc with
  | [c0, c1, c2], _ =>
    match xs, hxl with
    | [y0, y1], _ =>
      have k0 : Tryz.prog.cellsOf 72 = 2 := by kernel_rfl
      have h0 : DataW.trod enc Tryz.prog W base spare held n 72 [c0, c1] = some y0 := by
        have h : DataW.trod enc Tryz.prog W base spare held n 72 (List.take (Tryz.prog.cellsOf 72) (List.drop 0 [c0, c1, c2])) = [y0, y1][0]? := hf 0 _ rfl
        rw [k0] at h
        exact h
      have k1 : Tryz.prog.cellsOf 3 = 1 := by kernel_rfl
      have h1 : DataW.trod enc Tryz.prog W base spare held n 3 [c2] = some y1 := by
        have h : DataW.trod enc Tryz.prog W base spare held n 3 (List.take (Tryz.prog.cellsOf 3) (List.drop 2 [c0, c1, c2])) = [y0, y1][1]? := hf 1 _ rfl
        rw [k1] at h
        exact h
      obtain ⟨a, b, e0, wa, wb⟩ := param_in h0
      simp only [List.cons.injEq, and_true] at e0
      obtain ⟨rfl, rfl⟩ := e0
      obtain ⟨c, e1, -, w1⟩ := DataW.trod_int Tryz.underlying3 h1
      obtain rfl := (List.cons.inj e1).1
      exact ⟨a, b, c, rfl, wa, wb, wf_i64 w1⟩

variable {r : Reach} {b0 : Nat} {v : Value} {d : DataW H} {p : List MemPlace}
set_option maxRecDepth 100000 in
theorem open_push26 (hv : Value.okWide Tryz.prog W r b0 59 v) (h : DataW.Trod enc Tryz.prog W base spare held 59 v d p) : ∃ (a b c : Int), v = .agg #[.int .i64 a, .int .i64 b, .int .i64 c] ∧ (-9223372036854775808 ≤ a ∧ a ≤ 9223372036854775807) ∧ (-9223372036854775808 ≤ b ∧ b ≤ 9223372036854775807) ∧ (-9223372036854775808 ≤ c ∧ c ≤ 9223372036854775807) := by
  obtain ⟨cs, rfl, hsz⟩ := okWide_struct Tryz.underlying59 hv
  obtain ⟨l⟩ := cs
  obtain ⟨fuel, hf⟩ := h
  obtain ⟨a, b, c, h1, h2⟩ := push26_in hf
  exact ⟨a, b, c, by simpa [Value.cells] using h1, h2⟩
set_option maxRecDepth 100000 in
theorem open_place (hv : Value.okWide Tryz.prog W r b0 74 v) (h : DataW.Trod enc Tryz.prog W base spare held 74 v d p) : ∃ (a b c : Int), v = .agg #[.int .i64 a, .int .i64 b, .int .i64 c] ∧ (-9223372036854775808 ≤ a ∧ a ≤ 9223372036854775807) ∧ (-9223372036854775808 ≤ b ∧ b ≤ 9223372036854775807) ∧ (-9223372036854775808 ≤ c ∧ c ≤ 9223372036854775807) := by
  obtain ⟨cs, rfl, hsz⟩ := okWide_struct Tryz.underlying74 hv
  obtain ⟨l⟩ := cs
  obtain ⟨fuel, hf⟩ := h
  obtain ⟨a, b, c, h1, h2⟩ := place_in hf
  exact ⟨a, b, c, by simpa [Value.cells] using h1, h2⟩
end
end Go.Proofs.YtkjelfmgnkkijaaGreatDoor
