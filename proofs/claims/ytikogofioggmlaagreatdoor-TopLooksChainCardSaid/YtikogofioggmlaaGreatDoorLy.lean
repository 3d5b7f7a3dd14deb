/-
  The law's list of four.
-/
import Derived.Test.YtikogofioggmlaaGreatDoorLx
import Derived.Great.BuildSlice
set_option linter.unusedVariables false
set_option linter.unusedSimpArgs false
namespace Lum
open Go Go.RowKit Go.Shelf
open Go.Lib (decDigits itoa)
theorem RowX.blk {β : Type} {enc : β → List Value} {k : Nat} {W : World} {g : Nat} {e : TypeId} {l : List β} (hk : ∀ x, (enc x).length = k) (h : Blk W g e (l.flatMap enc).toArray) : RowX enc k W (some ⟨g, 0, none⟩) l := fun _ => ⟨g, 0, rfl, h.lt, fun i hi j u hu => by
  rw [h.cell, Nat.zero_add, List.getElem?_toArray]
  exact flat_at hk l i hi j u hu⟩
def cuF1 : Cu := ⟨[49], [], [⟨1, 0, 0, 100, 1⟩, ⟨1, 1, 0, 7, 1⟩], [⟨0, 0, 0, 0, 0, 0⟩], false, false, -1, [], 0⟩
def cuF2 : Cu := ⟨[50], [], [⟨1, 0, 0, 200, 1⟩], [⟨0, 0, 0, 0, 0, 0⟩], false, false, -1, [], 0⟩
def cuF3 : Cu := ⟨[51], [], [⟨1, 1, 0, 9, 1⟩], [⟨0, 0, 0, 0, 0, 0⟩], true, false, -1, [], 0⟩
def cuF4 : Cu := ⟨[52], [], [⟨2, 0, 0, 50, 1⟩], [⟨0, 0, 0, 0, 0, 0⟩], false, false, -1, [], 0⟩
def fourC : List Cu := [cuF1, cuF2, cuF3, cuF4]
end Lum
namespace Go.Proofs.YtikogofioggmlaaGreatDoor
open Go.RowKit Go.Shelf Lum
open Go.Lib (decDigits itoa)
attribute [local go_sem] bs_get bs_extract_end bs_extract_from bs_extract bs_append

theorem info_mvs : (Tryz.prog.info? 61).map (fun i => (i.zero, i.size)) = some (some (.agg #[.int .i64 0, .int .i64 0, .int .i64 0, .int .i64 0, .int .i64 0]), 5) := by kernel_rfl
theorem info_cus : (Tryz.prog.info? 32).map (fun i => (i.zero, i.size)) = some (some (.agg #[.string ⟨#[]⟩, .string ⟨#[]⟩, .slice none 0 0, .slice none 0 0, .bool false, .bool false, .int .i64 0, .string ⟨#[]⟩, .int .i64 0]), 9) := by kernel_rfl
theorem info2 {T : TypeId} {z : Value} {n : Nat} (h : (Tryz.prog.info? T).map (fun i => (i.zero, i.size)) = some (some z, n)) : ∃ i, Tryz.prog.info? T = some i ∧ i.zero = some z ∧ i.size = n := by
  cases hi : Tryz.prog.info? T with
  | none => rw [hi] at h; cases h
  | some i =>
    rw [hi] at h
    injection h with h
    injection h with h1 h2
    exact ⟨i, rfl, h1, h2⟩
set_option maxRecDepth 100000 in
set_option maxHeartbeats 4000000 in
theorem make_mvs1 (W : World) : (Instr.buildSlice 29 2 #[(0, .agg #[.int .i64 1, .int .i64 0, .int .i64 0, .int .i64 100, .int .i64 1]), (1, .agg #[.int .i64 1, .int .i64 1, .int .i64 0, .int .i64 7, .int .i64 1])]).run Tryz.prog W = .ok (.slice (some ⟨W.heap.size, 0, none⟩) 2 2) (W.alloc (.cells #[.int .i64 1, .int .i64 0, .int .i64 0, .int .i64 100, .int .i64 1, .int .i64 1, .int .i64 1, .int .i64 0, .int .i64 7, .int .i64 1] 61)) := by
  obtain ⟨i0, hi, hz, hs⟩ := info2 info_mvs
  exact run_buildSlice W 29 61 2 _ _ i0 _ Tryz.underlying29 hi hz (by rw [hs]; decide) (by rw [hs]; decide) (by rw [hs]; kernel_rfl)

set_option maxRecDepth 100000 in
set_option maxHeartbeats 4000000 in
theorem make_mvs2 (W : World) : (Instr.buildSlice 29 1 #[(0, .agg #[.int .i64 1, .int .i64 0, .int .i64 0, .int .i64 200, .int .i64 1])]).run Tryz.prog W = .ok (.slice (some ⟨W.heap.size, 0, none⟩) 1 1) (W.alloc (.cells #[.int .i64 1, .int .i64 0, .int .i64 0, .int .i64 200, .int .i64 1] 61)) := by
  obtain ⟨i0, hi, hz, hs⟩ := info2 info_mvs
  exact run_buildSlice W 29 61 1 _ _ i0 _ Tryz.underlying29 hi hz (by rw [hs]; decide) (by rw [hs]; decide) (by rw [hs]; kernel_rfl)

set_option maxRecDepth 100000 in
set_option maxHeartbeats 4000000 in
theorem make_mvs3 (W : World) : (Instr.buildSlice 29 1 #[(0, .agg #[.int .i64 1, .int .i64 1, .int .i64 0, .int .i64 9, .int .i64 1])]).run Tryz.prog W = .ok (.slice (some ⟨W.heap.size, 0, none⟩) 1 1) (W.alloc (.cells #[.int .i64 1, .int .i64 1, .int .i64 0, .int .i64 9, .int .i64 1] 61)) := by
  obtain ⟨i0, hi, hz, hs⟩ := info2 info_mvs
  exact run_buildSlice W 29 61 1 _ _ i0 _ Tryz.underlying29 hi hz (by rw [hs]; decide) (by rw [hs]; decide) (by rw [hs]; kernel_rfl)

set_option maxRecDepth 100000 in
set_option maxHeartbeats 4000000 in
theorem make_mvs4 (W : World) : (Instr.buildSlice 29 1 #[(0, .agg #[.int .i64 2, .int .i64 0, .int .i64 0, .int .i64 50, .int .i64 1])]).run Tryz.prog W = .ok (.slice (some ⟨W.heap.size, 0, none⟩) 1 1) (W.alloc (.cells #[.int .i64 2, .int .i64 0, .int .i64 0, .int .i64 50, .int .i64 1] 61)) := by
  obtain ⟨i0, hi, hz, hs⟩ := info2 info_mvs
  exact run_buildSlice W 29 61 1 _ _ i0 _ Tryz.underlying29 hi hz (by rw [hs]; decide) (by rw [hs]; decide) (by rw [hs]; kernel_rfl)

set_option maxRecDepth 100000 in
set_option maxHeartbeats 4000000 in
theorem make_cus (b1 t1 b2 t2 b3 t3 b4 t4 : Nat) (W : World) : (Instr.buildSlice 22 4 #[(0, .agg #[.string ⟨#[49]⟩, .string ⟨#[]⟩, .slice (some ⟨b1, 0, none⟩) 2 2, .slice (some ⟨t1, 0, none⟩) 1 1, .bool false, .bool false, .int .i64 (-1), .string ⟨#[]⟩, .int .i64 0]), (1, .agg #[.string ⟨#[50]⟩, .string ⟨#[]⟩, .slice (some ⟨b2, 0, none⟩) 1 1, .slice (some ⟨t2, 0, none⟩) 1 1, .bool false, .bool false, .int .i64 (-1), .string ⟨#[]⟩, .int .i64 0]), (2, .agg #[.string ⟨#[51]⟩, .string ⟨#[]⟩, .slice (some ⟨b3, 0, none⟩) 1 1, .slice (some ⟨t3, 0, none⟩) 1 1, .bool true, .bool false, .int .i64 (-1), .string ⟨#[]⟩, .int .i64 0]), (3, .agg #[.string ⟨#[52]⟩, .string ⟨#[]⟩, .slice (some ⟨b4, 0, none⟩) 1 1, .slice (some ⟨t4, 0, none⟩) 1 1, .bool false, .bool false, .int .i64 (-1), .string ⟨#[]⟩, .int .i64 0])]).run Tryz.prog W = .ok (.slice (some ⟨W.heap.size, 0, none⟩) 4 4) (W.alloc (.cells #[.string ⟨#[49]⟩, .string ⟨#[]⟩, .slice (some ⟨b1, 0, none⟩) 2 2, .slice (some ⟨t1, 0, none⟩) 1 1, .bool false, .bool false, .int .i64 (-1), .string ⟨#[]⟩, .int .i64 0, .string ⟨#[50]⟩, .string ⟨#[]⟩, .slice (some ⟨b2, 0, none⟩) 1 1, .slice (some ⟨t2, 0, none⟩) 1 1, .bool false, .bool false, .int .i64 (-1), .string ⟨#[]⟩, .int .i64 0, .string ⟨#[51]⟩, .string ⟨#[]⟩, .slice (some ⟨b3, 0, none⟩) 1 1, .slice (some ⟨t3, 0, none⟩) 1 1, .bool true, .bool false, .int .i64 (-1), .string ⟨#[]⟩, .int .i64 0, .string ⟨#[52]⟩, .string ⟨#[]⟩, .slice (some ⟨b4, 0, none⟩) 1 1, .slice (some ⟨t4, 0, none⟩) 1 1, .bool false, .bool false, .int .i64 (-1), .string ⟨#[]⟩, .int .i64 0] 32)) := by
  obtain ⟨i0, hi, hz, hs⟩ := info2 info_cus
  exact run_buildSlice W 22 32 4 _ _ i0 _ Tryz.underlying22 hi hz (by rw [hs]; decide) (by rw [hs]; decide) (by rw [hs]; kernel_rfl)

set_option maxRecDepth 100000 in
set_option maxHeartbeats 4000000 in
theorem l18_four (w : World) :
    Calls Tryz.prog 14 #[] w fun e w' => ∃ (p : Option Addr) (L : List CuL) (c : Nat), e = .returned (.agg #[.int .i64 1, .int .i64 0, .slice p L.length c]) ∧ L.map CuL.c = fourC ∧ CusAt w' p L ∧ Below w.heap.size w w' := by
  have HL := Lib.hid (Blk.new w 24 #[.int .i64 0, .int .i64 0, .slice none 0 0])
  have HB := Lib.hid ((Below.refl w.heap.size w).alloc (Nat.le_refl _) (.cells #[.int .i64 0, .int .i64 0, .slice none 0 0] 24))
  go_enter Tryz.func14, Tryz.ntmps14
  go_wp2_with fail
  with_reducible refine ((l18_move 1 0 100 _).mono ?_)
  rintro e w1 ⟨rfl, hb⟩
  replace HL := Lib.hid (Blk.keep HL.out hb); replace HB := Lib.hid (bch' HB.out hb); clear hb
  go_wp2_with fail
  with_reducible refine ((l18_move 1 1 7 _).mono ?_)
  rintro e w2 ⟨rfl, hb⟩
  replace HL := Lib.hid (Blk.keep HL.out hb); replace HB := Lib.hid (bch' HB.out hb); clear hb
  have hm := make_mvs1 w2
  go_wp2_with fail
  clear hm
  have N1 : Hid (w.heap.size < w2.heap.size) := Lib.hid HL.out.lt
  have hb := (Below.refl w2.heap.size w2).alloc (Nat.le_refl _) (.cells #[.int .i64 1, .int .i64 0, .int .i64 0, .int .i64 100, .int .i64 1, .int .i64 1, .int .i64 1, .int .i64 0, .int .i64 7, .int .i64 1] 61)
  have M1 := Lib.hid (Blk.new w2 61 #[.int .i64 1, .int .i64 0, .int .i64 0, .int .i64 100, .int .i64 1, .int .i64 1, .int .i64 1, .int .i64 0, .int .i64 7, .int .i64 1])
  obtain ⟨b1, hb1⟩ : ∃ n, n = w2.heap.size := ⟨_, rfl⟩
  obtain ⟨W1, hWW1⟩ : ∃ X, X = w2.alloc (.cells #[.int .i64 1, .int .i64 0, .int .i64 0, .int .i64 100, .int .i64 1, .int .i64 1, .int .i64 1, .int .i64 0, .int .i64 7, .int .i64 1] 61) := ⟨_, rfl⟩
  rw [← hb1] at M1 N1 ⊢
  rw [← hWW1] at hb M1 ⊢
  replace HL := Lib.hid (Blk.keep HL.out hb); replace HB := Lib.hid (bch' HB.out hb); clear hb
  clear hWW1 hb1
  with_reducible refine ((l18_cue [49] false _ _ _ _).mono ?_)
  rintro e w3 ⟨rfl, ht, hb⟩
  obtain ⟨t1, ht1⟩ : ∃ n, n = W1.heap.size + 1 := ⟨_, rfl⟩
  have Q1 : Hid (w.heap.size < W1.heap.size + 1) := Lib.hid (Nat.lt_succ_of_lt HL.out.lt)
  rw [← ht1] at ht Q1 ⊢
  have T1 := Lib.hid ht; clear ht ht1
  replace HL := Lib.hid (Blk.keep HL.out hb); replace M1 := Lib.hid (Blk.keep M1.out hb); replace HB := Lib.hid (bch' HB.out hb); clear hb
  go_wp2_with fail
  with_reducible refine ((l18_move 1 0 200 _).mono ?_)
  rintro e w4 ⟨rfl, hb⟩
  replace HL := Lib.hid (Blk.keep HL.out hb); replace M1 := Lib.hid (Blk.keep M1.out hb); replace T1 := Lib.hid (Blk.keep T1.out hb); replace HB := Lib.hid (bch' HB.out hb); clear hb
  have hm := make_mvs2 w4
  go_wp2_with fail
  clear hm
  have N2 : Hid (w.heap.size < w4.heap.size) := Lib.hid HL.out.lt
  have hb := (Below.refl w4.heap.size w4).alloc (Nat.le_refl _) (.cells #[.int .i64 1, .int .i64 0, .int .i64 0, .int .i64 200, .int .i64 1] 61)
  have M2 := Lib.hid (Blk.new w4 61 #[.int .i64 1, .int .i64 0, .int .i64 0, .int .i64 200, .int .i64 1])
  obtain ⟨b2, hb2⟩ : ∃ n, n = w4.heap.size := ⟨_, rfl⟩
  obtain ⟨W2, hWW2⟩ : ∃ X, X = w4.alloc (.cells #[.int .i64 1, .int .i64 0, .int .i64 0, .int .i64 200, .int .i64 1] 61) := ⟨_, rfl⟩
  rw [← hb2] at M2 N2 ⊢
  rw [← hWW2] at hb M2 ⊢
  replace HL := Lib.hid (Blk.keep HL.out hb); replace M1 := Lib.hid (Blk.keep M1.out hb); replace T1 := Lib.hid (Blk.keep T1.out hb); replace HB := Lib.hid (bch' HB.out hb); clear hb
  clear hWW2 hb2
  with_reducible refine ((l18_cue [50] false _ _ _ _).mono ?_)
  rintro e w5 ⟨rfl, ht, hb⟩
  obtain ⟨t2, ht2⟩ : ∃ n, n = W2.heap.size + 1 := ⟨_, rfl⟩
  have Q2 : Hid (w.heap.size < W2.heap.size + 1) := Lib.hid (Nat.lt_succ_of_lt HL.out.lt)
  rw [← ht2] at ht Q2 ⊢
  have T2 := Lib.hid ht; clear ht ht2
  replace HL := Lib.hid (Blk.keep HL.out hb); replace M1 := Lib.hid (Blk.keep M1.out hb); replace T1 := Lib.hid (Blk.keep T1.out hb); replace M2 := Lib.hid (Blk.keep M2.out hb); replace HB := Lib.hid (bch' HB.out hb); clear hb
  go_wp2_with fail
  with_reducible refine ((l18_move 1 1 9 _).mono ?_)
  rintro e w6 ⟨rfl, hb⟩
  replace HL := Lib.hid (Blk.keep HL.out hb); replace M1 := Lib.hid (Blk.keep M1.out hb); replace T1 := Lib.hid (Blk.keep T1.out hb); replace M2 := Lib.hid (Blk.keep M2.out hb); replace T2 := Lib.hid (Blk.keep T2.out hb); replace HB := Lib.hid (bch' HB.out hb); clear hb
  have hm := make_mvs3 w6
  go_wp2_with fail
  clear hm
  have N3 : Hid (w.heap.size < w6.heap.size) := Lib.hid HL.out.lt
  have hb := (Below.refl w6.heap.size w6).alloc (Nat.le_refl _) (.cells #[.int .i64 1, .int .i64 1, .int .i64 0, .int .i64 9, .int .i64 1] 61)
  have M3 := Lib.hid (Blk.new w6 61 #[.int .i64 1, .int .i64 1, .int .i64 0, .int .i64 9, .int .i64 1])
  obtain ⟨b3, hb3⟩ : ∃ n, n = w6.heap.size := ⟨_, rfl⟩
  obtain ⟨W3, hWW3⟩ : ∃ X, X = w6.alloc (.cells #[.int .i64 1, .int .i64 1, .int .i64 0, .int .i64 9, .int .i64 1] 61) := ⟨_, rfl⟩
  rw [← hb3] at M3 N3 ⊢
  rw [← hWW3] at hb M3 ⊢
  replace HL := Lib.hid (Blk.keep HL.out hb); replace M1 := Lib.hid (Blk.keep M1.out hb); replace T1 := Lib.hid (Blk.keep T1.out hb); replace M2 := Lib.hid (Blk.keep M2.out hb); replace T2 := Lib.hid (Blk.keep T2.out hb); replace HB := Lib.hid (bch' HB.out hb); clear hb
  clear hWW3 hb3
  with_reducible refine ((l18_cue [51] true _ _ _ _).mono ?_)
  rintro e w7 ⟨rfl, ht, hb⟩
  obtain ⟨t3, ht3⟩ : ∃ n, n = W3.heap.size + 1 := ⟨_, rfl⟩
  have Q3 : Hid (w.heap.size < W3.heap.size + 1) := Lib.hid (Nat.lt_succ_of_lt HL.out.lt)
  rw [← ht3] at ht Q3 ⊢
  have T3 := Lib.hid ht; clear ht ht3
  replace HL := Lib.hid (Blk.keep HL.out hb); replace M1 := Lib.hid (Blk.keep M1.out hb); replace T1 := Lib.hid (Blk.keep T1.out hb); replace M2 := Lib.hid (Blk.keep M2.out hb); replace T2 := Lib.hid (Blk.keep T2.out hb); replace M3 := Lib.hid (Blk.keep M3.out hb); replace HB := Lib.hid (bch' HB.out hb); clear hb
  go_wp2_with fail
  with_reducible refine ((l18_move 2 0 50 _).mono ?_)
  rintro e w8 ⟨rfl, hb⟩
  replace HL := Lib.hid (Blk.keep HL.out hb); replace M1 := Lib.hid (Blk.keep M1.out hb); replace T1 := Lib.hid (Blk.keep T1.out hb); replace M2 := Lib.hid (Blk.keep M2.out hb); replace T2 := Lib.hid (Blk.keep T2.out hb); replace M3 := Lib.hid (Blk.keep M3.out hb); replace T3 := Lib.hid (Blk.keep T3.out hb); replace HB := Lib.hid (bch' HB.out hb); clear hb
  have hm := make_mvs4 w8
  go_wp2_with fail
  clear hm
  have N4 : Hid (w.heap.size < w8.heap.size) := Lib.hid HL.out.lt
  have hb := (Below.refl w8.heap.size w8).alloc (Nat.le_refl _) (.cells #[.int .i64 2, .int .i64 0, .int .i64 0, .int .i64 50, .int .i64 1] 61)
  have M4 := Lib.hid (Blk.new w8 61 #[.int .i64 2, .int .i64 0, .int .i64 0, .int .i64 50, .int .i64 1])
  obtain ⟨b4, hb4⟩ : ∃ n, n = w8.heap.size := ⟨_, rfl⟩
  obtain ⟨W4, hWW4⟩ : ∃ X, X = w8.alloc (.cells #[.int .i64 2, .int .i64 0, .int .i64 0, .int .i64 50, .int .i64 1] 61) := ⟨_, rfl⟩
  rw [← hb4] at M4 N4 ⊢
  rw [← hWW4] at hb M4 ⊢
  replace HL := Lib.hid (Blk.keep HL.out hb); replace M1 := Lib.hid (Blk.keep M1.out hb); replace T1 := Lib.hid (Blk.keep T1.out hb); replace M2 := Lib.hid (Blk.keep M2.out hb); replace T2 := Lib.hid (Blk.keep T2.out hb); replace M3 := Lib.hid (Blk.keep M3.out hb); replace T3 := Lib.hid (Blk.keep T3.out hb); replace HB := Lib.hid (bch' HB.out hb); clear hb
  clear hWW4 hb4
  with_reducible refine ((l18_cue [52] false _ _ _ _).mono ?_)
  rintro e w9 ⟨rfl, ht, hb⟩
  obtain ⟨t4, ht4⟩ : ∃ n, n = W4.heap.size + 1 := ⟨_, rfl⟩
  have Q4 : Hid (w.heap.size < W4.heap.size + 1) := Lib.hid (Nat.lt_succ_of_lt HL.out.lt)
  rw [← ht4] at ht Q4 ⊢
  have T4 := Lib.hid ht; clear ht ht4
  replace HL := Lib.hid (Blk.keep HL.out hb); replace M1 := Lib.hid (Blk.keep M1.out hb); replace T1 := Lib.hid (Blk.keep T1.out hb); replace M2 := Lib.hid (Blk.keep M2.out hb); replace T2 := Lib.hid (Blk.keep T2.out hb); replace M3 := Lib.hid (Blk.keep M3.out hb); replace T3 := Lib.hid (Blk.keep T3.out hb); replace M4 := Lib.hid (Blk.keep M4.out hb); replace HB := Lib.hid (bch' HB.out hb); clear hb
  have hm := make_cus b1 t1 b2 t2 b3 t3 b4 t4 w9
  have hal := (Below.refl w9.heap.size w9).alloc (Nat.le_refl _) (.cells #[.string ⟨#[49]⟩, .string ⟨#[]⟩, .slice (some ⟨b1, 0, none⟩) 2 2, .slice (some ⟨t1, 0, none⟩) 1 1, .bool false, .bool false, .int .i64 (-1), .string ⟨#[]⟩, .int .i64 0, .string ⟨#[50]⟩, .string ⟨#[]⟩, .slice (some ⟨b2, 0, none⟩) 1 1, .slice (some ⟨t2, 0, none⟩) 1 1, .bool false, .bool false, .int .i64 (-1), .string ⟨#[]⟩, .int .i64 0, .string ⟨#[51]⟩, .string ⟨#[]⟩, .slice (some ⟨b3, 0, none⟩) 1 1, .slice (some ⟨t3, 0, none⟩) 1 1, .bool true, .bool false, .int .i64 (-1), .string ⟨#[]⟩, .int .i64 0, .string ⟨#[52]⟩, .string ⟨#[]⟩, .slice (some ⟨b4, 0, none⟩) 1 1, .slice (some ⟨t4, 0, none⟩) 1 1, .bool false, .bool false, .int .i64 (-1), .string ⟨#[]⟩, .int .i64 0] 32)
  obtain ⟨l0, l1, l2, lf0, lf1, lf2⟩ := (HL.out.keep hal).c3
  clear hal
  go_wp2_with fail
  clear hm
  have N5 : Hid (w.heap.size < w9.heap.size) := Lib.hid HL.out.lt
  refine bodyPost_ret_by (v := .agg #[.int .i64 1, .int .i64 0, .slice (some ⟨w9.heap.size, 0, none⟩) 4 4]) (by simp [results, Tryz.f14, go_sem, l0, l1, l2, lf0, lf1, lf2]) rfl ?_
  clear l0 l1 l2 lf0 lf1 lf2
  have hb := (Below.refl w9.heap.size w9).alloc (Nat.le_refl _) (.cells #[.string ⟨#[49]⟩, .string ⟨#[]⟩, .slice (some ⟨b1, 0, none⟩) 2 2, .slice (some ⟨t1, 0, none⟩) 1 1, .bool false, .bool false, .int .i64 (-1), .string ⟨#[]⟩, .int .i64 0, .string ⟨#[50]⟩, .string ⟨#[]⟩, .slice (some ⟨b2, 0, none⟩) 1 1, .slice (some ⟨t2, 0, none⟩) 1 1, .bool false, .bool false, .int .i64 (-1), .string ⟨#[]⟩, .int .i64 0, .string ⟨#[51]⟩, .string ⟨#[]⟩, .slice (some ⟨b3, 0, none⟩) 1 1, .slice (some ⟨t3, 0, none⟩) 1 1, .bool true, .bool false, .int .i64 (-1), .string ⟨#[]⟩, .int .i64 0, .string ⟨#[52]⟩, .string ⟨#[]⟩, .slice (some ⟨b4, 0, none⟩) 1 1, .slice (some ⟨t4, 0, none⟩) 1 1, .bool false, .bool false, .int .i64 (-1), .string ⟨#[]⟩, .int .i64 0] 32)
  have M5 := Lib.hid (Blk.new w9 32 #[.string ⟨#[49]⟩, .string ⟨#[]⟩, .slice (some ⟨b1, 0, none⟩) 2 2, .slice (some ⟨t1, 0, none⟩) 1 1, .bool false, .bool false, .int .i64 (-1), .string ⟨#[]⟩, .int .i64 0, .string ⟨#[50]⟩, .string ⟨#[]⟩, .slice (some ⟨b2, 0, none⟩) 1 1, .slice (some ⟨t2, 0, none⟩) 1 1, .bool false, .bool false, .int .i64 (-1), .string ⟨#[]⟩, .int .i64 0, .string ⟨#[51]⟩, .string ⟨#[]⟩, .slice (some ⟨b3, 0, none⟩) 1 1, .slice (some ⟨t3, 0, none⟩) 1 1, .bool true, .bool false, .int .i64 (-1), .string ⟨#[]⟩, .int .i64 0, .string ⟨#[52]⟩, .string ⟨#[]⟩, .slice (some ⟨b4, 0, none⟩) 1 1, .slice (some ⟨t4, 0, none⟩) 1 1, .bool false, .bool false, .int .i64 (-1), .string ⟨#[]⟩, .int .i64 0])
  obtain ⟨b5, hb5⟩ : ∃ n, n = w9.heap.size := ⟨_, rfl⟩
  obtain ⟨W5, hWW5⟩ : ∃ X, X = w9.alloc (.cells #[.string ⟨#[49]⟩, .string ⟨#[]⟩, .slice (some ⟨b1, 0, none⟩) 2 2, .slice (some ⟨t1, 0, none⟩) 1 1, .bool false, .bool false, .int .i64 (-1), .string ⟨#[]⟩, .int .i64 0, .string ⟨#[50]⟩, .string ⟨#[]⟩, .slice (some ⟨b2, 0, none⟩) 1 1, .slice (some ⟨t2, 0, none⟩) 1 1, .bool false, .bool false, .int .i64 (-1), .string ⟨#[]⟩, .int .i64 0, .string ⟨#[51]⟩, .string ⟨#[]⟩, .slice (some ⟨b3, 0, none⟩) 1 1, .slice (some ⟨t3, 0, none⟩) 1 1, .bool true, .bool false, .int .i64 (-1), .string ⟨#[]⟩, .int .i64 0, .string ⟨#[52]⟩, .string ⟨#[]⟩, .slice (some ⟨b4, 0, none⟩) 1 1, .slice (some ⟨t4, 0, none⟩) 1 1, .bool false, .bool false, .int .i64 (-1), .string ⟨#[]⟩, .int .i64 0] 32) := ⟨_, rfl⟩
  rw [← hb5] at M5 N5 ⊢
  rw [← hWW5] at hb M5 ⊢
  replace HL := Lib.hid (Blk.keep HL.out hb); replace M1 := Lib.hid (Blk.keep M1.out hb); replace T1 := Lib.hid (Blk.keep T1.out hb); replace M2 := Lib.hid (Blk.keep M2.out hb); replace T2 := Lib.hid (Blk.keep T2.out hb); replace M3 := Lib.hid (Blk.keep M3.out hb); replace T3 := Lib.hid (Blk.keep T3.out hb); replace M4 := Lib.hid (Blk.keep M4.out hb); replace T4 := Lib.hid (Blk.keep T4.out hb); replace HB := Lib.hid (bch' HB.out hb); clear hb
  clear hWW5 hb5
  have P5 := RowX.blk (k := 9) (l := [(⟨cuF1, some ⟨b1, 0, none⟩, 2, some ⟨t1, 0, none⟩, 1⟩ : CuL), (⟨cuF2, some ⟨b2, 0, none⟩, 1, some ⟨t2, 0, none⟩, 1⟩ : CuL), (⟨cuF3, some ⟨b3, 0, none⟩, 1, some ⟨t3, 0, none⟩, 1⟩ : CuL), (⟨cuF4, some ⟨b4, 0, none⟩, 1, some ⟨t4, 0, none⟩, 1⟩ : CuL)]) encCu_len ((((M5.out).far (p := ⟨w.heap.size, 0, none⟩) (Nat.ne_of_gt N5.out) (.int .i64 1)).far (p := ⟨w.heap.size, 1, none⟩) (Nat.ne_of_gt N5.out) (.int .i64 0)).far (p := ⟨w.heap.size, 2, none⟩) (Nat.ne_of_gt N5.out) (.slice (some ⟨b5, 0, none⟩) 4 4))
  have P1 := RowX.blk (k := 5) (l := cuF1.mv) encMv_len ((((M1.out).far (p := ⟨w.heap.size, 0, none⟩) (Nat.ne_of_gt N1.out) (.int .i64 1)).far (p := ⟨w.heap.size, 1, none⟩) (Nat.ne_of_gt N1.out) (.int .i64 0)).far (p := ⟨w.heap.size, 2, none⟩) (Nat.ne_of_gt N1.out) (.slice (some ⟨b5, 0, none⟩) 4 4))
  have R1 := RowX.blk (k := 6) (l := cuF1.pt) encTm_len ((((T1.out).far (p := ⟨w.heap.size, 0, none⟩) (Nat.ne_of_gt Q1.out) (.int .i64 1)).far (p := ⟨w.heap.size, 1, none⟩) (Nat.ne_of_gt Q1.out) (.int .i64 0)).far (p := ⟨w.heap.size, 2, none⟩) (Nat.ne_of_gt Q1.out) (.slice (some ⟨b5, 0, none⟩) 4 4))
  have P2 := RowX.blk (k := 5) (l := cuF2.mv) encMv_len ((((M2.out).far (p := ⟨w.heap.size, 0, none⟩) (Nat.ne_of_gt N2.out) (.int .i64 1)).far (p := ⟨w.heap.size, 1, none⟩) (Nat.ne_of_gt N2.out) (.int .i64 0)).far (p := ⟨w.heap.size, 2, none⟩) (Nat.ne_of_gt N2.out) (.slice (some ⟨b5, 0, none⟩) 4 4))
  have R2 := RowX.blk (k := 6) (l := cuF2.pt) encTm_len ((((T2.out).far (p := ⟨w.heap.size, 0, none⟩) (Nat.ne_of_gt Q2.out) (.int .i64 1)).far (p := ⟨w.heap.size, 1, none⟩) (Nat.ne_of_gt Q2.out) (.int .i64 0)).far (p := ⟨w.heap.size, 2, none⟩) (Nat.ne_of_gt Q2.out) (.slice (some ⟨b5, 0, none⟩) 4 4))
  have P3 := RowX.blk (k := 5) (l := cuF3.mv) encMv_len ((((M3.out).far (p := ⟨w.heap.size, 0, none⟩) (Nat.ne_of_gt N3.out) (.int .i64 1)).far (p := ⟨w.heap.size, 1, none⟩) (Nat.ne_of_gt N3.out) (.int .i64 0)).far (p := ⟨w.heap.size, 2, none⟩) (Nat.ne_of_gt N3.out) (.slice (some ⟨b5, 0, none⟩) 4 4))
  have R3 := RowX.blk (k := 6) (l := cuF3.pt) encTm_len ((((T3.out).far (p := ⟨w.heap.size, 0, none⟩) (Nat.ne_of_gt Q3.out) (.int .i64 1)).far (p := ⟨w.heap.size, 1, none⟩) (Nat.ne_of_gt Q3.out) (.int .i64 0)).far (p := ⟨w.heap.size, 2, none⟩) (Nat.ne_of_gt Q3.out) (.slice (some ⟨b5, 0, none⟩) 4 4))
  have P4 := RowX.blk (k := 5) (l := cuF4.mv) encMv_len ((((M4.out).far (p := ⟨w.heap.size, 0, none⟩) (Nat.ne_of_gt N4.out) (.int .i64 1)).far (p := ⟨w.heap.size, 1, none⟩) (Nat.ne_of_gt N4.out) (.int .i64 0)).far (p := ⟨w.heap.size, 2, none⟩) (Nat.ne_of_gt N4.out) (.slice (some ⟨b5, 0, none⟩) 4 4))
  have R4 := RowX.blk (k := 6) (l := cuF4.pt) encTm_len ((((T4.out).far (p := ⟨w.heap.size, 0, none⟩) (Nat.ne_of_gt Q4.out) (.int .i64 1)).far (p := ⟨w.heap.size, 1, none⟩) (Nat.ne_of_gt Q4.out) (.int .i64 0)).far (p := ⟨w.heap.size, 2, none⟩) (Nat.ne_of_gt Q4.out) (.slice (some ⟨b5, 0, none⟩) 4 4))
  refine ⟨some ⟨b5, 0, none⟩, [⟨cuF1, some ⟨b1, 0, none⟩, 2, some ⟨t1, 0, none⟩, 1⟩, ⟨cuF2, some ⟨b2, 0, none⟩, 1, some ⟨t2, 0, none⟩, 1⟩, ⟨cuF3, some ⟨b3, 0, none⟩, 1, some ⟨t3, 0, none⟩, 1⟩, ⟨cuF4, some ⟨b4, 0, none⟩, 1, some ⟨t4, 0, none⟩, 1⟩], 4, rfl, rfl, ⟨P5, ?_⟩, (((HB.out).setCell (p := ⟨w.heap.size, 0, none⟩) (Nat.le_refl _) _).setCell (p := ⟨w.heap.size, 1, none⟩) (Nat.le_refl _) _).setCell (p := ⟨w.heap.size, 2, none⟩) (Nat.le_refl _) _⟩
  intro x hx
  simp only [List.mem_cons, List.not_mem_nil, or_false] at hx
  rcases hx with rfl | rfl | rfl | rfl
  · exact ⟨P1, R1, Nat.le_refl _⟩
  · exact ⟨P2, R2, Nat.le_refl _⟩
  · exact ⟨P3, R3, Nat.le_refl _⟩
  · exact ⟨P4, R4, Nat.le_refl _⟩
end Go.Proofs.YtikogofioggmlaaGreatDoor
