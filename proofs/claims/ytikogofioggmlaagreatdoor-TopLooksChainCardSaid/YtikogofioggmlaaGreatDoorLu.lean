/-
  The lists that the law takes.
-/
import Derived.Test.YtikogofioggmlaaGreatDoorLt
set_option linter.unusedVariables false
set_option linter.unusedSimpArgs false
namespace Lum
open Go Go.RowKit Go.Shelf
open Go.Lib (decDigits itoa)
def FfI (L : List CuL) (v : List Value) (g : Nat) (T : TypeId) (p : Option Addr) (w : World) (s j : Value) (wr : World) : Prop := ∃ (z : Int) (k : Nat), s = .int .i64 z ∧ j = .int .i64 (k : Int) ∧ k ≤ L.length ∧ Hid (Below w.heap.size w wr) ∧ Hid (Blk wr g T v.toArray) ∧ Hid (CusAt wr p L)
end Lum
namespace Go.Proofs.YtikogofioggmlaaGreatDoor
open Go.RowKit Go.Shelf Lum
open Go.Lib (decDigits itoa)
attribute [local go_sem] bs_get bs_extract_end bs_extract_from bs_extract bs_append

set_option maxRecDepth 100000 in
set_option maxHeartbeats 4000000 in
theorem r18_few (num pri : Int) (L : List CuL) (p : Option Addr) (c : Nat) (w : World) (hC : CusAt w p L) :
    Calls Tryz.prog 12 #[.agg #[.int .i64 num, .int .i64 pri, .slice p L.length c]] w (BoolP (FewL L) w) := by
  have hf17 := fun W (h : CusAt W p L) => r17_few num pri L p c W h
  have HF17 := Lib.hid hf17; clear hf17
  have HL := Lib.hid (Blk.new w 24 #[.int .i64 num, .int .i64 pri, .slice p L.length c])
  have HB := Lib.hid ((Below.refl w.heap.size w).alloc (Nat.le_refl _) (.cells #[.int .i64 num, .int .i64 pri, .slice p L.length c] 24))
  obtain ⟨l0, l1, l2, lf0, lf1, lf2⟩ := HL.out.c3
  have HC := Lib.hid (hC.kept HB.out); clear hC
  go_enter Tryz.func12, Tryz.ntmps12
  go_upto_region 1 with fail
  skip
  go_wp2_with fail
  with_reducible refine ((HF17.out _ HC.out).mono ?_)
  rintro e w' ⟨b, rfl, hb1, hb⟩
  have HB1 := Lib.hid hb1; clear hb1
  replace HL := Lib.hid (HL.out.keep hb); clear l0 l1 l2 lf0 lf1 lf2; replace HC := Lib.hid (CusAt.kept HC.out hb); replace HB := Lib.hid (bch' HB.out hb); clear hb; obtain ⟨l0, l1, l2, lf0, lf1, lf2⟩ := HL.out.c3
  cases b
  · go_wp2_with fail
    go_ret
    exact ⟨false, rfl, (fun h => by cases h), HB.out⟩
  · have HFW := Lib.hid (HB1.out rfl)
    have hc17 := fun W (h : CusAt W p L) => r17_check num pri L p c W h HFW.out
    have HC17 := Lib.hid hc17; clear hc17
    by_cases c0 : (10 : Int) < (L.length : Int)
    · go_wp2_with fail
      with_reducible refine ((HC17.out _ HC.out).mono ?_)
      rintro e w3 ⟨n, rfl, hn1, hb⟩
      have HN1 := Lib.hid hn1; have HB3 := Lib.hid (bch' HB.out hb); clear hn1 hb
      go_wp2_with fail
      go_ret
      exact ⟨_, rfl, fun _ => HFW.out, HB3.out⟩
    · go_wp2_with fail
      go_loopw [3, 4] (fun s j wr => FfI L [.int .i64 num, .int .i64 pri, .slice p L.length c] w.heap.size 24 p w s j wr) (fun _ j _ => L.length - (intOf j).toNat)
      case atStart => exact ⟨0, 0, rfl, rfl, Nat.zero_le _, HB, HL, HC⟩
      case round =>
        obtain ⟨z, k, rfl, rfl, hk9, HB2, HL2, HC2⟩ := hrel
        clear HB HL HC
        clear l0 l1 l2 lf0 lf1 lf2
        have HB := HB2; have HL := HL2; have HC := HC2; clear HB2 HL2 HC2
        obtain ⟨l0, l1, l2, lf0, lf1, lf2⟩ := HL.out.c3
        by_cases hkl : k < L.length
        · have hlt : (k : Int) < (L.length : Int) := by omega
          have hk0 : (0 : Int) ≤ (k : Int) := by omega
          have hlo : k * 9 < 9223372036854775807 := by have := HFW.out.few; omega
          have hlo2 : k * 9 + 2 < 9223372036854775807 := by have := HFW.out.few; omega
          have hun : IntKind.i64.wrap ((k : Int) + 1) = (k : Int) + 1 := IntWalk.i64_in _ (by have := HFW.out.few; omega)
          obtain ⟨b, o, hpp, hb, hC⟩ := HC.out.r (fun h => by rw [h] at hkl; exact absurd hkl (Nat.not_lt_zero _))
          obtain ⟨x, hx⟩ : ∃ x, x = L[k]'hkl := ⟨_, rfl⟩
          have hcell := hC k hkl
          rw [← hx] at hcell
          subst hpp
          clear l0 l1 l2 lf0 lf1 lf2
          obtain ⟨l0, l1, l2, lf0, lf1, lf2⟩ := HL.out.c3
          have y2 : wr.cell? ⟨b, o + k * 9 + 2, none⟩ = some (.slice x.pm x.c.mv.length x.cm) := hcell 2 _ rfl
          have hbr := hb
          clear hcell hb hC hx
          generalize x.c.mv.length = ml at *
          by_cases c1 : (20 : Int) < (ml : Int)
          · go_wp2_with fail
            with_reducible refine ((HC17.out _ HC.out).mono ?_)
            rintro e w3 ⟨n, rfl, hn1, hb⟩
            have HN1 := Lib.hid hn1; have HB3 := Lib.hid (bch' HB.out hb); clear hn1 hb
            go_wp2_with fail
            go_ret
            exact ⟨_, rfl, fun _ => HFW.out, HB3.out⟩
          · by_cases c2 : (30 : Int) < wrap64 (z + (ml : Int))
            · go_wp2_with fail
              with_reducible refine ((HC17.out _ HC.out).mono ?_)
              rintro e w3 ⟨n, rfl, hn1, hb⟩
              have HN1 := Lib.hid hn1; have HB3 := Lib.hid (bch' HB.out hb); clear hn1 hb
              go_wp2_with fail
              go_ret
              exact ⟨_, rfl, fun _ => HFW.out, HB3.out⟩
            · go_wp2_with fail
              go_roundw
              case rel => exact ⟨_, k + 1, rfl, by first | rfl | simp, by omega, HB, HL, HC⟩
              case measure => first | (simp [intOf]; done) | (simp [intOf]; omega)
        · have hlt : ¬ (k : Int) < (L.length : Int) := by omega
          go_wp2_with fail
          go_ret
          exact ⟨true, rfl, fun _ => HFW.out, HB.out⟩

set_option maxRecDepth 100000 in
set_option maxHeartbeats 4000000 in
theorem caseList (num pri : Int) (L : List CuL) (p : Option Addr) (c : Nat) (w : World) (hC : CusAt w p L) :
    Calls Tryz.prog 4 #[.agg #[.int .i64 num, .int .i64 pri, .slice p L.length c]] w (BoolP (LsR num pri (L.map CuL.c)) w) := by
  have hf18 := fun W (h : CusAt W p L) => r18_few num pri L p c W h
  have HF18 := Lib.hid hf18; clear hf18
  have HL := Lib.hid (Blk.new w 24 #[.int .i64 num, .int .i64 pri, .slice p L.length c])
  have HB := Lib.hid ((Below.refl w.heap.size w).alloc (Nat.le_refl _) (.cells #[.int .i64 num, .int .i64 pri, .slice p L.length c] 24))
  obtain ⟨l0, l1, l2, lf0, lf1, lf2⟩ := HL.out.c3
  have HC := Lib.hid (hC.kept HB.out); clear hC
  go_enter Tryz.func4, Tryz.ntmps4
  go_wp2_with fail
  with_reducible refine ((HF18.out _ HC.out).mono ?_)
  rintro e w' ⟨b, rfl, hb1, hb⟩
  have HB1 := Lib.hid hb1; clear hb1
  replace HL := Lib.hid (HL.out.keep hb); clear l0 l1 l2 lf0 lf1 lf2; replace HC := Lib.hid (CusAt.kept HC.out hb); replace HB := Lib.hid (bch' HB.out hb); clear hb; obtain ⟨l0, l1, l2, lf0, lf1, lf2⟩ := HL.out.c3
  cases b
  · go_wp2_with fail
    go_ret
    exact ⟨false, rfl, (fun h => by cases h), HB.out⟩
  · have hc17 := fun W (h : CusAt W p L) => r17_check num pri L p c W h (HB1.out rfl)
    have HC17 := Lib.hid hc17; clear hc17
    go_wp2_with fail
    with_reducible refine ((HC17.out _ HC.out).mono ?_)
    rintro e w3 ⟨n, rfl, hn1, hb⟩
    have HN1 := Lib.hid hn1; have HB3 := Lib.hid (bch' HB.out hb); clear hn1 hb
    go_wp2_with fail
    go_ret
    exact ⟨_, rfl, fun h => HN1.out (by simpa using h), HB3.out⟩
end Go.Proofs.YtikogofioggmlaaGreatDoor
