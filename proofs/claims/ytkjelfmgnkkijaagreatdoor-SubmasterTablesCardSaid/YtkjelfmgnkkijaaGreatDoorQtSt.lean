/-
  Submasters: Find of the program and of the reference. slices.Grow of nil and slices.Concat of two slices, at submasters. Submasters: Drop of the program and of the reference. Law 26: tables of submasters: the program and the reference at once; the law SubmasterTables.
-/
import Derived.Test.YtkjelfmgnkkijaaGreatDoorQtTb
import Derived.Test.YtkjelfmgnkkijaaGreatDoorQtGa
import Derived.Deep.RegionHeld3
import Derived.Test.YtkjelfmgnkkijaaGreatDoorQtSe
set_option linter.unusedVariables false
set_option linter.unusedSimpArgs false
namespace Go.Proofs.YtkjelfmgnkkijaaGreatDoor
open Go.RowKit Go.Shelf Lum
open Go.Lib (decDigits itoa)
attribute [local go_sem] bs_get bs_extract_end bs_extract_from bs_extract bs_append

set_option maxRecDepth 100000 in
set_option maxHeartbeats 8000000 in
theorem own_tfind_tab (w : World) (l : List SbT) (pp : Option Addr) (cc : Nat) (n : Int) (hs : SbsAt w (.slice pp l.length cc) (l.map (·.1))) (hz : ¬ tabE (l.map (·.1)) = 0) :
    Calls Tryz.prog 63 #[.slice pp l.length cc, .int .i64 n] w fun e w' => e = .returned (.tuple #[.agg #[.int .i64 0, .int .i64 0, .bool false, .slice none 0 0], .int .i64 (tabE (l.map (·.1)))]) ∧ Below w.heap.size w w' := by
  have ht := fun W (h : SbsAt W (.slice pp l.length cc) (l.map (·.1))) => own_stable (l.map (·.1)) (.slice pp l.length cc) W h
  have hal := (Below.refl w.heap.size w).alloc (Nat.le_refl _) (.cells #[.int .i64 0, .int .i64 0, .bool false, .slice none 0 0] 58)
  have HS := Lib.hid (SbsAt.kept hs hal)
  have HB := Lib.hid hal; clear hal
  have HR := Lib.hid (Blk.new w 58 #[.int .i64 0, .int .i64 0, .bool false, .slice none 0 0])
  obtain ⟨r0, r1, r2, r3, rf0, rf1, rf2, rf3⟩ := HR.out.c4
  have hne : ((tabE (l.map (·.1)) : Int) != 0) = true := by simpa using hz
  generalize tabE (l.map (·.1)) = m at *
  clear hz hs
  have HT := Lib.hid ht; clear ht
  go_enter Tryz.func63, Tryz.ntmps63
  go_wp2_with (first | (with_reducible refine ((HT.out _ HS.out).mono ?_); rintro e w' ⟨rfl, hb⟩; replace HR := Lib.hid (HR.out.keep hb); clear r0 r1 r2 r3 rf0 rf1 rf2 rf3; replace HS := Lib.hid (SbsAt.kept HS.out hb); replace HB := Lib.hid (bch' HB.out hb); clear hb; obtain ⟨r0, r1, r2, r3, rf0, rf1, rf2, rf3⟩ := HR.out.c4))
  refine bodyPost_ret_by (v := .tuple #[.agg #[.int .i64 0, .int .i64 0, .bool false, .slice none 0 0], .int .i64 m]) (by simp [results, Tryz.f63, go_sem, r0, r1, r2, r3, rf0, rf1, rf2, rf3]) rfl ⟨rfl, ?_⟩
  exact (((HB.out.setCell (Nat.le_refl _) _).setCell (Nat.le_refl _) _).setCell (Nat.le_refl _) _).setCell (Nat.le_refl _) _

set_option maxRecDepth 100000 in
set_option maxHeartbeats 8000000 in
theorem own_tfind_hit (w : World) (l : List SbT) (pp : Option Addr) (cc : Nat) (n : Int) (hs : SbsAt w (.slice pp l.length cc) (l.map (·.1))) (hR : RowX encT 4 w pp l) (hz : tabE (l.map (·.1)) = 0) (n0 : -9223372036854775808 ≤ n) (n1 : n ≤ 9223372036854775807) (i : Nat) (hi : i < l.length) (x : SbT) (hxi : x = l[i]'hi) (hxn : (sbv (l.map (·.1)) i).nu = n) :
    Calls Tryz.prog 63 #[.slice pp l.length cc, .int .i64 n] w fun e w' => e = .returned (.tuple #[.agg #[.int .i64 (x.1.nu), .int .i64 (x.1.pr), .bool (x.1.inh), .slice x.2.1 x.2.2.1 x.2.2.2], .int .i64 (0)]) ∧ Below w.heap.size w w' := by
  have HXI := Lib.hid hxi; clear hxi
  have hT := tabOk hz
  have h16 : l.length ≤ 16 := by have := hT.few; rwa [List.length_map] at this
  have ht := fun W (h : SbsAt W (.slice pp l.length cc) (l.map (·.1))) => own_stable (l.map (·.1)) (.slice pp l.length cc) W h
  rw [hz] at ht
  change ∀ W, _ → Calls _ _ _ W (fun e w' => e = .returned (.int .i64 0) ∧ _) at ht
  have hpl : ∀ (W : World), RowX encT 4 W pp l → Calls Tryz.prog 128 #[.slice pp l.length cc, .int .i64 n] W fun e w' => e = .returned (.tuple #[.int .i64 (i : Int), .bool true]) ∧ Below W.heap.size W w' := fun W hr => by
    have h := own_splace n (l.map (·.1)) W l pp cc rfl hr hT n0 n1
    rw [List.length_map] at h
    refine h.mono fun e w' ⟨i2, hit2, he, hb, h1, h2, h3, h4⟩ => ?_
    rw [List.length_map] at h2 h3
    cases hit2
    · exact absurd hxn (h3 rfl i hi)
    · obtain ⟨h5, h6⟩ := h2 rfl
      have e2 : i2 = i := by
        have ord := hT.ord
        rw [List.length_map] at ord
        rcases Nat.lt_trichotomy i2 i with g | g | g
        · have := ord i hi i2 g; omega
        · exact g
        · have := ord i2 h5 i g; omega
      subst e2
      exact ⟨he, hb⟩
  have HX := Lib.hid (RowX.kept hR ((Below.refl w.heap.size w).alloc (Nat.le_refl _) (.cells #[.int .i64 0, .int .i64 0, .bool false, .slice none 0 0] 58)))
  have hal := (Below.refl w.heap.size w).alloc (Nat.le_refl _) (.cells #[.int .i64 0, .int .i64 0, .bool false, .slice none 0 0] 58)
  have HS := Lib.hid (SbsAt.kept hs hal)
  have HB := Lib.hid hal; clear hal
  have HR := Lib.hid (Blk.new w 58 #[.int .i64 0, .int .i64 0, .bool false, .slice none 0 0])
  obtain ⟨r0, r1, r2, r3, rf0, rf1, rf2, rf3⟩ := HR.out.c4
  have hi0 : (0 : Int) ≤ (i : Int) := by omega
  have hi1 : (i : Int) < (l.length : Int) := by omega
  have hil : ¬ (i : Int) < 0 := by omega
  clear hT hz hs hR hxn
  have HT := Lib.hid ht; clear ht
  have HPL := Lib.hid hpl; clear hpl
  go_enter Tryz.func63, Tryz.ntmps63
  go_upto_region 7 with (first | (with_reducible refine ((HT.out _ HS.out).mono ?_); rintro e w' ⟨rfl, hb⟩; replace HR := Lib.hid (HR.out.keep hb); clear r0 r1 r2 r3 rf0 rf1 rf2 rf3; replace HS := Lib.hid (SbsAt.kept HS.out hb); replace HX := Lib.hid (RowX.kept HX.out hb); replace HB := Lib.hid (bch' HB.out hb); clear hb; obtain ⟨r0, r1, r2, r3, rf0, rf1, rf2, rf3⟩ := HR.out.c4) | ((with_reducible refine ((HPL.out _ HX.out).mono ?_)); rintro e w' ⟨rfl, hb⟩; replace HR := Lib.hid (HR.out.keep hb); clear r0 r1 r2 r3 rf0 rf1 rf2 rf3; replace HS := Lib.hid (SbsAt.kept HS.out hb); replace HX := Lib.hid (RowX.kept HX.out hb); replace HB := Lib.hid (bch' HB.out hb); clear hb; obtain ⟨r0, r1, r2, r3, rf0, rf1, rf2, rf3⟩ := HR.out.c4))
  obtain ⟨b, o, rfl, hb, hC⟩ := HX.out (fun h => by subst h; exact absurd hi (Nat.not_lt_zero _))
  have hcell := hC i hi
  rw [← HXI.out] at hcell
  have HCE := Lib.hid hcell; clear hcell hC
  have y0 : w'.cell? ⟨b, o + i * 4, none⟩ = some (.int .i64 (x.1.nu)) := HCE.out 0 _ rfl
  have y1 : w'.cell? ⟨b, o + i * 4 + 1, none⟩ = some (.int .i64 (x.1.pr)) := HCE.out 1 _ rfl
  have y2 : w'.cell? ⟨b, o + i * 4 + 2, none⟩ = some (.bool (x.1.inh)) := HCE.out 2 _ rfl
  have y3 : w'.cell? ⟨b, o + i * 4 + 3, none⟩ = some (.slice x.2.1 x.2.2.1 x.2.2.2) := HCE.out 3 _ rfl
  go_wp2_with fail
  refine bodyPost_ret_by (v := .tuple #[.agg #[.int .i64 (x.1.nu), .int .i64 (x.1.pr), .bool (x.1.inh), .slice x.2.1 x.2.2.1 x.2.2.2], .int .i64 0]) (by simp [results, Tryz.f63, go_sem, r0, r1, r2, r3, rf0, rf1, rf2, rf3]) rfl ⟨rfl, ?_⟩
  exact (((HB.out.setCell (Nat.le_refl _) _).setCell (Nat.le_refl _) _).setCell (Nat.le_refl _) _).setCell (Nat.le_refl _) _

set_option maxRecDepth 100000 in
set_option maxHeartbeats 8000000 in
theorem own_tfind_no (w : World) (l : List SbT) (pp : Option Addr) (cc : Nat) (n : Int) (hs : SbsAt w (.slice pp l.length cc) (l.map (·.1))) (hR : RowX encT 4 w pp l) (hz : tabE (l.map (·.1)) = 0) (n0 : -9223372036854775808 ≤ n) (n1 : n ≤ 9223372036854775807) (hno : ∀ j, j < l.length → (sbv (l.map (·.1)) j).nu ≠ n) :
    Calls Tryz.prog 63 #[.slice pp l.length cc, .int .i64 n] w fun e w' => e = .returned (.tuple #[.agg #[.int .i64 0, .int .i64 0, .bool false, .slice none 0 0], .int .i64 (6)]) ∧ Below w.heap.size w w' := by
  have hT := tabOk hz
  have h16 : l.length ≤ 16 := by have := hT.few; rwa [List.length_map] at this
  have ht := fun W (h : SbsAt W (.slice pp l.length cc) (l.map (·.1))) => own_stable (l.map (·.1)) (.slice pp l.length cc) W h
  rw [hz] at ht
  change ∀ W, _ → Calls _ _ _ W (fun e w' => e = .returned (.int .i64 0) ∧ _) at ht
  have hpl : ∀ (W : World), RowX encT 4 W pp l → Calls Tryz.prog 128 #[.slice pp l.length cc, .int .i64 n] W fun e w' => (∃ i2 : Nat, e = .returned (.tuple #[.int .i64 (i2 : Int), .bool false])) ∧ Below W.heap.size W w' := fun W hr => by
    have h := own_splace n (l.map (·.1)) W l pp cc rfl hr hT n0 n1
    rw [List.length_map] at h
    refine h.mono fun e w' ⟨i2, hit2, he, hb, h1, h2, h3, h4⟩ => ?_
    rw [List.length_map] at h2
    cases hit2
    · exact ⟨⟨i2, he⟩, hb⟩
    · exact absurd (h2 rfl).2 (hno i2 (h2 rfl).1)
  have HX := Lib.hid (RowX.kept hR ((Below.refl w.heap.size w).alloc (Nat.le_refl _) (.cells #[.int .i64 0, .int .i64 0, .bool false, .slice none 0 0] 58)))
  have hal := (Below.refl w.heap.size w).alloc (Nat.le_refl _) (.cells #[.int .i64 0, .int .i64 0, .bool false, .slice none 0 0] 58)
  have HS := Lib.hid (SbsAt.kept hs hal)
  have HB := Lib.hid hal; clear hal
  have HR := Lib.hid (Blk.new w 58 #[.int .i64 0, .int .i64 0, .bool false, .slice none 0 0])
  obtain ⟨r0, r1, r2, r3, rf0, rf1, rf2, rf3⟩ := HR.out.c4
  clear hT hz hs hR hno
  have HT := Lib.hid ht; clear ht
  have HPL := Lib.hid hpl; clear hpl
  go_enter Tryz.func63, Tryz.ntmps63
  go_wp2_with (first | (with_reducible refine ((HT.out _ HS.out).mono ?_); rintro e w' ⟨rfl, hb⟩; replace HR := Lib.hid (HR.out.keep hb); clear r0 r1 r2 r3 rf0 rf1 rf2 rf3; replace HS := Lib.hid (SbsAt.kept HS.out hb); replace HX := Lib.hid (RowX.kept HX.out hb); replace HB := Lib.hid (bch' HB.out hb); clear hb; obtain ⟨r0, r1, r2, r3, rf0, rf1, rf2, rf3⟩ := HR.out.c4) | ((with_reducible refine ((HPL.out _ HX.out).mono ?_)); rintro e w' ⟨⟨i2, rfl⟩, hb⟩; replace HR := Lib.hid (HR.out.keep hb); clear r0 r1 r2 r3 rf0 rf1 rf2 rf3; replace HS := Lib.hid (SbsAt.kept HS.out hb); replace HX := Lib.hid (RowX.kept HX.out hb); replace HB := Lib.hid (bch' HB.out hb); clear hb; obtain ⟨r0, r1, r2, r3, rf0, rf1, rf2, rf3⟩ := HR.out.c4))
  refine bodyPost_ret_by (v := .tuple #[.agg #[.int .i64 0, .int .i64 0, .bool false, .slice none 0 0], .int .i64 6]) (by simp [results, Tryz.f63, go_sem, r0, r1, r2, r3, rf0, rf1, rf2, rf3]) rfl ⟨rfl, ?_⟩
  exact (((HB.out.setCell (Nat.le_refl _) _).setCell (Nat.le_refl _) _).setCell (Nat.le_refl _) _).setCell (Nat.le_refl _) _

set_option maxRecDepth 100000 in
set_option maxHeartbeats 8000000 in
theorem r26_find_tab (w : World) (l : List SbT) (pp : Option Addr) (cc : Nat) (n : Int) (hs : SbsAt w (.slice pp l.length cc) (l.map (·.1))) (hz : ¬ tabE (l.map (·.1)) = 0) :
    Calls Tryz.prog 64 #[.slice pp l.length cc, .int .i64 n] w fun e w' => e = .returned (.tuple #[.agg #[.int .i64 0, .int .i64 0, .bool false, .slice none 0 0], .int .i64 (tabE (l.map (·.1)))]) ∧ Below w.heap.size w w' := by
  have ht := fun W (h : SbsAt W (.slice pp l.length cc) (l.map (·.1))) => r26_table (l.map (·.1)) (.slice pp l.length cc) W h
  have hal := (Below.refl w.heap.size w).alloc (Nat.le_refl _) (.cells #[.int .i64 0, .int .i64 0, .bool false, .slice none 0 0] 58)
  have HS := Lib.hid (SbsAt.kept hs hal)
  have HB := Lib.hid hal; clear hal
  have HR := Lib.hid (Blk.new w 58 #[.int .i64 0, .int .i64 0, .bool false, .slice none 0 0])
  obtain ⟨r0, r1, r2, r3, rf0, rf1, rf2, rf3⟩ := HR.out.c4
  have hne : ((tabE (l.map (·.1)) : Int) != 0) = true := by simpa using hz
  generalize tabE (l.map (·.1)) = m at *
  clear hz hs
  have HT := Lib.hid ht; clear ht
  go_enter Tryz.func64, Tryz.ntmps64
  go_wp2_with (first | (with_reducible refine ((HT.out _ HS.out).mono ?_); rintro e w' ⟨rfl, hb⟩; replace HR := Lib.hid (HR.out.keep hb); clear r0 r1 r2 r3 rf0 rf1 rf2 rf3; replace HS := Lib.hid (SbsAt.kept HS.out hb); replace HB := Lib.hid (bch' HB.out hb); clear hb; obtain ⟨r0, r1, r2, r3, rf0, rf1, rf2, rf3⟩ := HR.out.c4))
  refine bodyPost_ret_by (v := .tuple #[.agg #[.int .i64 0, .int .i64 0, .bool false, .slice none 0 0], .int .i64 m]) (by simp [results, Tryz.f64, go_sem, r0, r1, r2, r3, rf0, rf1, rf2, rf3]) rfl ⟨rfl, ?_⟩
  exact (((HB.out.setCell (Nat.le_refl _) _).setCell (Nat.le_refl _) _).setCell (Nat.le_refl _) _).setCell (Nat.le_refl _) _

set_option maxRecDepth 100000 in
set_option maxHeartbeats 8000000 in
theorem r26_find_hit (w : World) (l : List SbT) (pp : Option Addr) (cc : Nat) (n : Int) (hs : SbsAt w (.slice pp l.length cc) (l.map (·.1))) (hR : RowX encT 4 w pp l) (hz : tabE (l.map (·.1)) = 0) (i : Nat) (hi : i < l.length) (x : SbT) (hxi : x = l[i]'hi) (hxn : (sbv (l.map (·.1)) i).nu = n) (hix : ixOf (fun x => x.nu == n) (l.map (·.1)) = (i : Int)) :
    Calls Tryz.prog 64 #[.slice pp l.length cc, .int .i64 n] w fun e w' => e = .returned (.tuple #[.agg #[.int .i64 (x.1.nu), .int .i64 (x.1.pr), .bool (x.1.inh), .slice x.2.1 x.2.2.1 x.2.2.2], .int .i64 (0)]) ∧ Below w.heap.size w w' := by
  have HXI := Lib.hid hxi; clear hxi
  have hT := tabOk hz
  have h16 : l.length ≤ 16 := by have := hT.few; rwa [List.length_map] at this
  have ht := fun W (h : SbsAt W (.slice pp l.length cc) (l.map (·.1))) => r26_table (l.map (·.1)) (.slice pp l.length cc) W h
  rw [hz] at ht
  change ∀ W, _ → Calls _ _ _ W (fun e w' => e = .returned (.int .i64 0) ∧ _) at ht
  have hpl := fun W (h : SbsAt W (.slice pp l.length cc) (l.map (·.1))) => r26_place (l.map (·.1)) n (.slice pp l.length cc) W h (by rw [List.length_map]; omega)
  rw [hix] at hpl
  have HX := Lib.hid (RowX.kept hR ((Below.refl w.heap.size w).alloc (Nat.le_refl _) (.cells #[.int .i64 0, .int .i64 0, .bool false, .slice none 0 0] 58)))
  have hal := (Below.refl w.heap.size w).alloc (Nat.le_refl _) (.cells #[.int .i64 0, .int .i64 0, .bool false, .slice none 0 0] 58)
  have HS := Lib.hid (SbsAt.kept hs hal)
  have HB := Lib.hid hal; clear hal
  have HR := Lib.hid (Blk.new w 58 #[.int .i64 0, .int .i64 0, .bool false, .slice none 0 0])
  obtain ⟨r0, r1, r2, r3, rf0, rf1, rf2, rf3⟩ := HR.out.c4
  have hi0 : (0 : Int) ≤ (i : Int) := by omega
  have hi1 : (i : Int) < (l.length : Int) := by omega
  have hil : ¬ (i : Int) < 0 := by omega
  clear hT hz hs hR hxn hix
  have HT := Lib.hid ht; clear ht
  have HPL := Lib.hid hpl; clear hpl
  go_enter Tryz.func64, Tryz.ntmps64
  go_upto_region 7 with (first | (with_reducible refine ((HT.out _ HS.out).mono ?_); rintro e w' ⟨rfl, hb⟩; replace HR := Lib.hid (HR.out.keep hb); clear r0 r1 r2 r3 rf0 rf1 rf2 rf3; replace HS := Lib.hid (SbsAt.kept HS.out hb); replace HX := Lib.hid (RowX.kept HX.out hb); replace HB := Lib.hid (bch' HB.out hb); clear hb; obtain ⟨r0, r1, r2, r3, rf0, rf1, rf2, rf3⟩ := HR.out.c4) | (with_reducible refine ((HPL.out _ HS.out).mono ?_); rintro e w' ⟨rfl, hb⟩; replace HR := Lib.hid (HR.out.keep hb); clear r0 r1 r2 r3 rf0 rf1 rf2 rf3; replace HS := Lib.hid (SbsAt.kept HS.out hb); replace HX := Lib.hid (RowX.kept HX.out hb); replace HB := Lib.hid (bch' HB.out hb); clear hb; obtain ⟨r0, r1, r2, r3, rf0, rf1, rf2, rf3⟩ := HR.out.c4))
  obtain ⟨b, o, rfl, hb, hC⟩ := HX.out (fun h => by subst h; exact absurd hi (Nat.not_lt_zero _))
  have hcell := hC i hi
  rw [← HXI.out] at hcell
  have HCE := Lib.hid hcell; clear hcell hC
  have y0 : w'.cell? ⟨b, o + i * 4, none⟩ = some (.int .i64 (x.1.nu)) := HCE.out 0 _ rfl
  have y1 : w'.cell? ⟨b, o + i * 4 + 1, none⟩ = some (.int .i64 (x.1.pr)) := HCE.out 1 _ rfl
  have y2 : w'.cell? ⟨b, o + i * 4 + 2, none⟩ = some (.bool (x.1.inh)) := HCE.out 2 _ rfl
  have y3 : w'.cell? ⟨b, o + i * 4 + 3, none⟩ = some (.slice x.2.1 x.2.2.1 x.2.2.2) := HCE.out 3 _ rfl
  go_wp2_with fail
  refine bodyPost_ret_by (v := .tuple #[.agg #[.int .i64 (x.1.nu), .int .i64 (x.1.pr), .bool (x.1.inh), .slice x.2.1 x.2.2.1 x.2.2.2], .int .i64 0]) (by simp [results, Tryz.f64, go_sem, r0, r1, r2, r3, rf0, rf1, rf2, rf3]) rfl ⟨rfl, ?_⟩
  exact (((HB.out.setCell (Nat.le_refl _) _).setCell (Nat.le_refl _) _).setCell (Nat.le_refl _) _).setCell (Nat.le_refl _) _

set_option maxRecDepth 100000 in
set_option maxHeartbeats 8000000 in
theorem r26_find_no (w : World) (l : List SbT) (pp : Option Addr) (cc : Nat) (n : Int) (hs : SbsAt w (.slice pp l.length cc) (l.map (·.1))) (hR : RowX encT 4 w pp l) (hz : tabE (l.map (·.1)) = 0) (hix : ixOf (fun x => x.nu == n) (l.map (·.1)) = -1) :
    Calls Tryz.prog 64 #[.slice pp l.length cc, .int .i64 n] w fun e w' => e = .returned (.tuple #[.agg #[.int .i64 0, .int .i64 0, .bool false, .slice none 0 0], .int .i64 (6)]) ∧ Below w.heap.size w w' := by
  have hT := tabOk hz
  have h16 : l.length ≤ 16 := by have := hT.few; rwa [List.length_map] at this
  have ht := fun W (h : SbsAt W (.slice pp l.length cc) (l.map (·.1))) => r26_table (l.map (·.1)) (.slice pp l.length cc) W h
  rw [hz] at ht
  change ∀ W, _ → Calls _ _ _ W (fun e w' => e = .returned (.int .i64 0) ∧ _) at ht
  have hpl := fun W (h : SbsAt W (.slice pp l.length cc) (l.map (·.1))) => r26_place (l.map (·.1)) n (.slice pp l.length cc) W h (by rw [List.length_map]; omega)
  rw [hix] at hpl
  have HX := Lib.hid (RowX.kept hR ((Below.refl w.heap.size w).alloc (Nat.le_refl _) (.cells #[.int .i64 0, .int .i64 0, .bool false, .slice none 0 0] 58)))
  have hal := (Below.refl w.heap.size w).alloc (Nat.le_refl _) (.cells #[.int .i64 0, .int .i64 0, .bool false, .slice none 0 0] 58)
  have HS := Lib.hid (SbsAt.kept hs hal)
  have HB := Lib.hid hal; clear hal
  have HR := Lib.hid (Blk.new w 58 #[.int .i64 0, .int .i64 0, .bool false, .slice none 0 0])
  obtain ⟨r0, r1, r2, r3, rf0, rf1, rf2, rf3⟩ := HR.out.c4
  clear hT hz hs hR hix
  have HT := Lib.hid ht; clear ht
  have HPL := Lib.hid hpl; clear hpl
  go_enter Tryz.func64, Tryz.ntmps64
  go_wp2_with (first | (with_reducible refine ((HT.out _ HS.out).mono ?_); rintro e w' ⟨rfl, hb⟩; replace HR := Lib.hid (HR.out.keep hb); clear r0 r1 r2 r3 rf0 rf1 rf2 rf3; replace HS := Lib.hid (SbsAt.kept HS.out hb); replace HX := Lib.hid (RowX.kept HX.out hb); replace HB := Lib.hid (bch' HB.out hb); clear hb; obtain ⟨r0, r1, r2, r3, rf0, rf1, rf2, rf3⟩ := HR.out.c4) | (with_reducible refine ((HPL.out _ HS.out).mono ?_); rintro e w' ⟨rfl, hb⟩; replace HR := Lib.hid (HR.out.keep hb); clear r0 r1 r2 r3 rf0 rf1 rf2 rf3; replace HS := Lib.hid (SbsAt.kept HS.out hb); replace HX := Lib.hid (RowX.kept HX.out hb); replace HB := Lib.hid (bch' HB.out hb); clear hb; obtain ⟨r0, r1, r2, r3, rf0, rf1, rf2, rf3⟩ := HR.out.c4))
  refine bodyPost_ret_by (v := .tuple #[.agg #[.int .i64 0, .int .i64 0, .bool false, .slice none 0 0], .int .i64 6]) (by simp [results, Tryz.f64, go_sem, r0, r1, r2, r3, rf0, rf1, rf2, rf3]) rfl ⟨rfl, ?_⟩
  exact (((HB.out.setCell (Nat.le_refl _) _).setCell (Nat.le_refl _) _).setCell (Nat.le_refl _) _).setCell (Nat.le_refl _) _
end Go.Proofs.YtkjelfmgnkkijaaGreatDoor
namespace Lum
open Go Go.RowKit Go.Shelf
open Go.Lib (decDigits itoa)
/-- append(nil, make([]T, m)...): a new block. -/
theorem wpList_appZ0 {β : Type} {enc : β → List Value} {k : Nat} {P : Program} {ops : Array Oper} {rest : List Oper} {o : Oper} {a : Act} {Q : Exit → Act → World → Prop} (hgd : o.guard = none) (s x : Operand) (t tn : TypeId)
    (ho : o.op = .call { callee := .builtin .append, args := #[s, x], argTypes := #[t, tn] }) (e : TypeId) (i : TypeInfo) (z : Value) (bytes : Nat) (ht : P.underlying t = some (.slice e)) (htn : P.underlying tn = some (.int .i64)) (hi : P.info? e = some i) (hz : i.zero = some z)
    (hsize : i.size = k) (hby : i.bytes = bytes) (hzs : z.cells.size = k) (hbs : bytes ≤ 64) (hk0 : 0 < k) (w : World)
    (m : Nat) (h0 : 0 < m) (hn : m ≤ 1000000001) (mi : Int) (hmi : mi = (m : Int)) (hs : a.eval s = .slice none 0 0) (hx : a.eval x = .int .i64 mi)
    (h : ∀ (G : Nat) (w' : World), OwnR enc k w.heap.size e w' (some ⟨w.heap.size, 0, none⟩) G [] → Below w.heap.size w w' → wpList P ops Q rest (a.put o.dst (.slice (some ⟨w.heap.size, 0, none⟩) m G)) w') :
    wpList P ops Q (o :: rest) a w := by
  subst hmi
  have hold : (Builtin.firstCells i.size 0 (.slice none 0 0)).run P w.drew = .ok (([] : List Value).toArray) w.drew := by first | rfl | simp [Builtin.firstCells]
  have hb2 : m * bytes ≤ 1000000001 * 64 := Nat.mul_le_mul hn hbs
  refine Lib.wpList_append_run w hgd s x t tn ho _ _ hs hx _ _ (Lib.run_append_grow_zeros w t tn o.type e i z .i64 .i64 ht htn hi hz none 0 0 [] hold m h0 (by omega) (by omega) (by omega) (by rw [hby]; omega) (by rw [hby]; exact growslice_fits (by omega) (by rw [Nat.zero_add]; omega))) ?_
  have hGe := grownCap_ge w (0 + m) 0 e
  have hGm := grownCap_le_maxLen w (0 + m) 0 e (by unfold maxLen; omega)
  have hb := heap_alloc_new w.drew
  have e0 : ∀ G : Nat, (Value.slice (some ⟨w.heap.size, 0, none⟩) (0 + m) G) = .slice (some ⟨w.heap.size, 0, none⟩) m G := fun G => by rw [Nat.zero_add]
  refine (e0 _) ▸ h (grownCap w (0 + m) 0 e) _ ⟨by simp, .inr ⟨w.heap.size, _, _, rfl, Nat.le_refl _, heap_alloc_new w.drew _, Nat.zero_le _, hGm, ?_, by simp⟩⟩ ((Below.refl w.heap.size w).drew.alloc (Nat.le_refl _) _)
  rw [Array.size_append, Array.size_append, size_zeroCells, size_zeroCells, hzs, List.size_toArray, List.length_nil, Nat.zero_add, ← Nat.add_mul]
  congr 1; omega
end Lum
namespace Go.Proofs.YtkjelfmgnkkijaaGreatDoor
open Go.RowKit Go.Shelf Lum
open Go.Lib (decDigits itoa)
attribute [local go_sem] bs_get bs_extract_end bs_extract_from bs_extract bs_append

set_option maxRecDepth 100000 in
set_option maxHeartbeats 4000000 in
theorem own_tgrow (w : World) (n : Nat) (hn : n ≤ 1000000) :
    Calls Tryz.prog 170 #[.slice none 0 0, .int .i64 (n : Int)] w fun e w' => ∃ p c, e = .returned (.slice p 0 c) ∧ OwnR encT 4 w.heap.size 58 w' p c [] ∧ Below w.heap.size w w' := by
  obtain ⟨i0, hi, hz0, hz1, hz2⟩ := info_parts info_sub
  have hn1 : ¬ (n : Int) < 0 := by omega
  have hw0 : IntKind.i64.wrap ((n : Int) - 0) = (n : Int) := by rw [Int.sub_zero]; exact IntWalk.i64_in _ (by omega)
  have hw1 : IntKind.i64.wrap (n : Int) = (n : Int) := IntWalk.i64_in _ (by omega)
  by_cases hn0 : 0 < n
  · have hn2 : (0 : Int) < (n : Int) := by omega
    go_enter Tryz.func170, Tryz.ntmps170
    go_wp2_with (first | (at_builtin; refine wpList_appZ0 (enc := encT) (k := 4) rfl (.tmp 20) (.tmp 21) 25 3 rfl 58 i0 (.agg #[.int .i64 0, .int .i64 0, .bool false, .slice none 0 0]) 48 Tryz.underlying25 Tryz.underlying3 hi hz0 hz1 hz2 rfl (by decide) (by decide) w n hn0 (by omega) _ rfl rfl rfl ?_; intro G w1 hO hb; have HO := Lib.hid hO; have HB := Lib.hid hb; clear hO hb))
    go_ret
    exact ⟨_, _, rfl, HO.out, HB.out⟩
  · obtain rfl : n = 0 := by omega
    go_enter Tryz.func170, Tryz.ntmps170
    go_wp2_with fail
    go_ret
    exact ⟨none, 0, rfl, OwnR.nil _ _ _, Below.refl _ _⟩

set_option maxRecDepth 100000 in
set_option maxHeartbeats 4000000 in
theorem own_tconcat (w : World) (l1 l2 : List SbT) (B b1 o1 c1 b2 o2 c2 : Nat) (hB : B < w.heap.size) (hq0 : w.cell? ⟨B, 0, none⟩ = some (.slice (some ⟨b1, o1, none⟩) l1.length c1)) (hq1 : w.cell? ⟨B, 1, none⟩ = some (.slice (some ⟨b2, o2, none⟩) l2.length c2))
    (hc1 : ∀ W, Below w.heap.size w W → ∀ j u, (l1.flatMap encT)[j]? = some u → W.cell? ⟨b1, o1 + j, none⟩ = some u) (hc2 : ∀ W, Below w.heap.size w W → ∀ j u, (l2.flatMap encT)[j]? = some u → W.cell? ⟨b2, o2 + j, none⟩ = some u) (hn : l1.length + l2.length ≤ 1000) :
    Calls Tryz.prog 131 #[.slice (some ⟨B, 0, none⟩) 2 2] w fun e w' => ∃ p c, e = .returned (.slice p (l1 ++ l2).length c) ∧ OwnR encT 4 w.heap.size 58 w' p c (l1 ++ l2) ∧ Below w.heap.size w w' := by
  obtain ⟨i0, hi, hz0, hz1, hz2⟩ := info_parts info_sub
  have HL := Lib.hid hn; have HC1 := Lib.hid hc1; have HC2 := Lib.hid hc2; have HQ0 := Lib.hid hq0; have HQ1 := Lib.hid hq1; clear hc1 hc2
  have q0 := hq0; have q1 := hq1; clear hq0 hq1
  have hgr := fun W => own_tgrow W (l1.length + l2.length) (by omega)
  have HGR := Lib.hid hgr; clear hgr
  have hu1 : IntKind.i64.wrap ((0 : Int) + (l1.length : Int)) = (l1.length : Int) := by rw [Int.zero_add]; exact IntWalk.i64_in _ (by omega)
  have hu3 : IntKind.i64.wrap (l1.length : Int) = (l1.length : Int) := IntWalk.i64_in _ (by omega)
  have hu2 : IntKind.i64.wrap ((l1.length : Int) + (l2.length : Int)) = (((l1.length + l2.length : Nat)) : Int) := IntWalk.i64_in _ (by omega)
  have hp1 : ¬ (l1.length : Int) < 0 := by omega
  have hp2 : ¬ (((l1.length + l2.length : Nat)) : Int) < 0 := by omega
  have HB := Lib.hid (Below.refl w.heap.size w)
  clear hn
  go_enter Tryz.func131, Tryz.ntmps131
  go_wp2_with fail
  refine wp_loop_rounds 3 ?_
  rw [rounds_succ]
  go_wp2_with fail
  rw [rounds_succ]
  go_wp2_with fail
  rw [rounds_succ]
  go_wp2_with fail
  clear q0 q1
  refine ((HGR.out _).mono ?_)
  rintro e wg ⟨pg, cg, rfl, ho, hb⟩
  obtain ⟨base, hbase⟩ : ∃ base, base = w.heap.size := ⟨_, rfl⟩
  rw [← hbase] at ho
  have HO := Lib.hid ho; clear ho
  replace HB := Lib.hid (bch' HB.out hb)
  have HBW : Hid (w.heap.size ≤ base) := Lib.hid (by omega)
  have HBS : Hid (base ≤ wg.heap.size) := Lib.hid (by have := HB.out.size; omega)
  have HBE := Lib.hid hbase; clear hbase hb HGR
  have q0 : wg.cell? ⟨B, 0, none⟩ = some (.slice (some ⟨b1, o1, none⟩) l1.length c1) := (HB.out.cell (p := ⟨B, 0, none⟩) hB).trans HQ0.out
  have q1 : wg.cell? ⟨B, 1, none⟩ = some (.slice (some ⟨b2, o2, none⟩) l2.length c2) := (HB.out.cell (p := ⟨B, 1, none⟩) hB).trans HQ1.out
  go_wp2_with fail
  refine wp_loop_rounds 3 ?_
  rw [rounds_succ]
  go_wp2_with (first | (at_builtin; refine wpList_appL rfl (.tmp 31) (.tmp 32) 25 rfl base 58 i0 (.agg #[.int .i64 0, .int .i64 0, .bool false, .slice none 0 0]) 48 Tryz.underlying25 hi hz0 hz1 hz2 rfl (by decide) (by decide) pg cg 0 ([] : List SbT) rfl _ l1 b1 o1 c1 encT_len (fun j u hu => HC1.out _ (by first | exact HB.out | exact Below.refl _ _) j u hu) (fun y _ => encT_one y) rfl HO.out rfl (by have := HL.out; simp; omega) HBS.out ?_; intro p1 e1 w1 hO3 hb3; have HO1 := Lib.hid hO3; clear hO3; replace HB := Lib.hid (HB.out.trans (hb3.mono HBW.out)); have HB3 := Lib.hid hb3; clear hb3; have HBS2 := Lib.hid (Nat.le_trans HBS.out HB3.out.size); clear HBS; have HBS := HBS2; clear HBS2 HB3))
  clear q0 q1 HO
  have q0 : w1.cell? ⟨B, 0, none⟩ = some (.slice (some ⟨b1, o1, none⟩) l1.length c1) := (HB.out.cell (p := ⟨B, 0, none⟩) hB).trans HQ0.out
  have q1 : w1.cell? ⟨B, 1, none⟩ = some (.slice (some ⟨b2, o2, none⟩) l2.length c2) := (HB.out.cell (p := ⟨B, 1, none⟩) hB).trans HQ1.out
  have HN : Hid (l1.length = ([] ++ l1).length) := Lib.hid (by simp)
  skip
  rw [rounds_succ]
  go_wp2_with (first | (at_builtin; refine wpList_appL rfl (.tmp 31) (.tmp 32) 25 rfl base 58 i0 (.agg #[.int .i64 0, .int .i64 0, .bool false, .slice none 0 0]) 48 Tryz.underlying25 hi hz0 hz1 hz2 rfl (by decide) (by decide) p1 e1 l1.length ([] ++ l1) HN.out _ l2 b2 o2 c2 encT_len (fun j u hu => HC2.out _ (by first | exact HB.out | exact Below.refl _ _) j u hu) (fun y _ => encT_one y) rfl HO1.out rfl (by have := HL.out; simp; omega) HBS.out ?_; intro p2 e2 w2 hO3 hb3; have HO2 := Lib.hid hO3; clear hO3; replace HB := Lib.hid (HB.out.trans (hb3.mono HBW.out)); have HB3 := Lib.hid hb3; clear hb3; have HBS2 := Lib.hid (Nat.le_trans HBS.out HB3.out.size); clear HBS; have HBS := HBS2; clear HBS2 HB3))
  rw [rounds_succ]
  go_wp2_with fail
  go_ret
  have he : l1.length + l2.length = (l1 ++ l2).length := by rw [List.length_append]
  refine ⟨p2, e2, by first | (rw [he]; done) | (rw [he]; rfl), ?_, HB.out⟩
  have := HO2.out
  rw [List.nil_append, HBE.out] at this
  exact this
end Go.Proofs.YtkjelfmgnkkijaaGreatDoor
namespace Lum
open Go Go.RowKit Go.Shelf
open Go.Lib (decDigits itoa)
theorem cAl {w W : World} (h : Below w.heap.size w W) (o : Obj) : Below w.heap.size w (W.alloc o) := h.alloc h.size o
def cutL {α : Type} (l : List α) (i : Nat) : List α := l.take i ++ l.drop (i + 1)
theorem cutL_map {l : List SbT} {i : Nat} : (cutL l i).map (·.1) = cutL (l.map (·.1)) i := by unfold cutL; rw [List.map_append, List.map_take, List.map_drop]
theorem cutL_len {α : Type} {l : List α} {i : Nat} (h : i < l.length) : (cutL l i).length = l.length - 1 := by unfold cutL; rw [List.length_append, List.length_take, List.length_drop]; omega
theorem drop_cut {su : List Sb} {n : Int} {i : Nat} (h : TabOk su) (hi : i < su.length) (hn : (sbv su i).nu = n) : dropL su n = cutL su i := by
  have e : su = su.take i ++ (su[i]'hi :: su.drop (i + 1)) := by rw [← List.drop_eq_getElem_cons hi, List.take_append_drop]
  unfold dropL cutL
  conv => lhs; rw [e]
  rw [List.filter_append, List.filter_cons, if_neg (by rw [sbv_at hi]; unfold dropP; simp [hn])]
  have k : ∀ j (hj : j < su.length), j ≠ i → dropP n (su[j]'hj) = true := fun j hj g => by
    unfold dropP
    rw [sbv_at hj, bne_iff_ne]
    rcases Nat.lt_or_gt_of_ne g with g | g
    · have := h.ord i hi j g; omega
    · have := h.ord j hj i g; omega
  congr 1
  · refine List.filter_eq_self.2 fun x hx => ?_
    obtain ⟨j, hj, rfl⟩ := List.getElem_of_mem hx
    rw [List.length_take] at hj
    rw [List.getElem_take]
    exact k j (by omega) (by omega)
  · refine List.filter_eq_self.2 fun x hx => ?_
    obtain ⟨j, hj, rfl⟩ := List.getElem_of_mem hx
    rw [List.length_drop] at hj
    rw [List.getElem_drop]
    exact k (i + 1 + j) (by omega) (by omega)
theorem dTc {w W W' : World} {R : Prop} (h : Below w.heap.size w W ∧ R) (h2 : Below W.heap.size W W') : Below w.heap.size w W' := bch' h.1 h2
theorem dAl {w W : World} {R : Prop} (h : Below w.heap.size w W ∧ R) (o : Obj) : Below w.heap.size w (W.alloc o) := h.1.alloc h.1.size o
end Lum
namespace Go.Proofs.YtkjelfmgnkkijaaGreatDoor
open Go.RowKit Go.Shelf Lum
open Go.Lib (decDigits itoa)
attribute [local go_sem] bs_get bs_extract_end bs_extract_from bs_extract bs_append

set_option maxRecDepth 100000 in
set_option maxHeartbeats 8000000 in
theorem own_tdrop_tab (w : World) (l : List SbT) (pp : Option Addr) (cc : Nat) (n : Int) (hs : SbsAt w (.slice pp l.length cc) (l.map (·.1))) (hz : ¬ tabE (l.map (·.1)) = 0) :
    Calls Tryz.prog 67 #[.slice pp l.length cc, .int .i64 n] w fun e w' => e = .returned (.tuple #[.slice none 0 0, .int .i64 (tabE (l.map (·.1)))]) ∧ Below w.heap.size w w' := by
  have ht := fun W (h : SbsAt W (.slice pp l.length cc) (l.map (·.1))) => own_stable (l.map (·.1)) (.slice pp l.length cc) W h
  have HS := Lib.hid hs; clear hs
  have HB := Lib.hid (Below.refl w.heap.size w)
  have hne : ((tabE (l.map (·.1)) : Int) != 0) = true := by simpa using hz
  generalize tabE (l.map (·.1)) = m at *
  clear hz
  have HT := Lib.hid ht; clear ht
  go_enter Tryz.func67, Tryz.ntmps67
  go_wp2_with (first | (with_reducible refine ((HT.out _ HS.out).mono ?_); rintro e w' ⟨rfl, hb⟩; replace HS := Lib.hid (SbsAt.kept HS.out hb); replace HB := Lib.hid (bch' HB.out hb); clear hb))
  go_ret2
  exact ⟨rfl, HB.out⟩

set_option maxRecDepth 100000 in
set_option maxHeartbeats 8000000 in
theorem own_tdrop_no (w : World) (l : List SbT) (pp : Option Addr) (cc : Nat) (n : Int) (hs : SbsAt w (.slice pp l.length cc) (l.map (·.1))) (hR : RowX encT 4 w pp l) (hz : tabE (l.map (·.1)) = 0) (n0 : -9223372036854775808 ≤ n) (n1 : n ≤ 9223372036854775807) (hno : ∀ j, j < l.length → (sbv (l.map (·.1)) j).nu ≠ n) :
    Calls Tryz.prog 67 #[.slice pp l.length cc, .int .i64 n] w fun e w' => e = .returned (.tuple #[.slice none 0 0, .int .i64 (6)]) ∧ Below w.heap.size w w' := by
  have hT := tabOk hz
  have h16 : l.length ≤ 16 := by have := hT.few; rwa [List.length_map] at this
  have ht := fun W (h : SbsAt W (.slice pp l.length cc) (l.map (·.1))) => own_stable (l.map (·.1)) (.slice pp l.length cc) W h
  rw [hz] at ht
  change ∀ W, _ → Calls _ _ _ W (fun e w' => e = .returned (.int .i64 0) ∧ _) at ht
  have hpl : ∀ (W : World), RowX encT 4 W pp l → Calls Tryz.prog 128 #[.slice pp l.length cc, .int .i64 n] W fun e w' => (∃ i2 : Nat, e = .returned (.tuple #[.int .i64 (i2 : Int), .bool false])) ∧ Below W.heap.size W w' := fun W hr => by
    have h := own_splace n (l.map (·.1)) W l pp cc rfl hr hT n0 n1
    rw [List.length_map] at h
    refine h.mono fun e w' ⟨i2, hit2, he, hb, h1, h2, h3, h4⟩ => ?_
    rw [List.length_map] at h2
    cases hit2
    · exact ⟨⟨i2, he⟩, hb⟩
    · exact absurd (h2 rfl).2 (hno i2 (h2 rfl).1)
  have HX := Lib.hid hR
  have HS := Lib.hid hs; clear hs
  have HB := Lib.hid (Below.refl w.heap.size w)
  clear hT hz hR hno
  have HT := Lib.hid ht; clear ht
  have HPL := Lib.hid hpl; clear hpl
  go_enter Tryz.func67, Tryz.ntmps67
  go_wp2_with (first | (with_reducible refine ((HT.out _ HS.out).mono ?_); rintro e w' ⟨rfl, hb⟩; replace HS := Lib.hid (SbsAt.kept HS.out hb); replace HX := Lib.hid (RowX.kept HX.out hb); replace HB := Lib.hid (bch' HB.out hb); clear hb) | ((with_reducible refine ((HPL.out _ HX.out).mono ?_)); rintro e w' ⟨⟨i2, rfl⟩, hb⟩; replace HS := Lib.hid (SbsAt.kept HS.out hb); replace HX := Lib.hid (RowX.kept HX.out hb); replace HB := Lib.hid (bch' HB.out hb); clear hb))
  go_ret2
  exact ⟨rfl, HB.out⟩

set_option maxRecDepth 100000 in
set_option maxHeartbeats 8000000 in
theorem own_tdrop_hit (w : World) (l : List SbT) (pp : Option Addr) (cc : Nat) (n : Int) (hs : SbsAt w (.slice pp l.length cc) (l.map (·.1))) (hR : RowX encT 4 w pp l) (hz : tabE (l.map (·.1)) = 0) (n0 : -9223372036854775808 ≤ n) (n1 : n ≤ 9223372036854775807) (i : Nat) (hi : i < l.length) (hxn : (sbv (l.map (·.1)) i).nu = n) :
    Calls Tryz.prog 67 #[.slice pp l.length cc, .int .i64 n] w fun e w' => ∃ pp cc, e = .returned (.tuple #[.slice pp (cutL l i).length cc, .int .i64 0]) ∧ OwnR encT 4 w.heap.size 58 w' pp cc (cutL l i) ∧ Below w.heap.size w w' := by
  have hT := tabOk hz
  have h16 : l.length ≤ 16 := by have := hT.few; rwa [List.length_map] at this
  have ht := fun W (h : SbsAt W (.slice pp l.length cc) (l.map (·.1))) => own_stable (l.map (·.1)) (.slice pp l.length cc) W h
  rw [hz] at ht
  change ∀ W, _ → Calls _ _ _ W (fun e w' => e = .returned (.int .i64 0) ∧ _) at ht
  have hpl : ∀ (W : World), RowX encT 4 W pp l → Calls Tryz.prog 128 #[.slice pp l.length cc, .int .i64 n] W fun e w' => e = .returned (.tuple #[.int .i64 (i : Int), .bool true]) ∧ Below W.heap.size W w' := fun W hr => by
    have h := own_splace n (l.map (·.1)) W l pp cc rfl hr hT n0 n1
    rw [List.length_map] at h
    refine h.mono fun e w' ⟨i2, hit2, he, hb, h1, h2, h3, h4⟩ => ?_
    rw [List.length_map] at h2 h3
    cases hit2
    · exact absurd hxn (h3 rfl i hi)
    · obtain ⟨h5, h6⟩ := h2 rfl
      have e2 : i2 = i := by
        have ord := hT.ord
        rw [List.length_map] at ord
        rcases Nat.lt_trichotomy i2 i with g | g | g
        · have := ord i hi i2 g; omega
        · exact g
        · have := ord i2 h5 i g; omega
      subst e2
      exact ⟨he, hb⟩
  have HX := Lib.hid hR
  have HS := Lib.hid hs; clear hs
  have HB := Lib.hid (Below.refl w.heap.size w)
  have hi0 : (0 : Int) ≤ (i : Int) := by omega
  have hcap : l.length ≤ cc := by obtain ⟨p, c, e, h1, -⟩ := HS.out; injection e with e1 e2 e3; rw [List.length_map] at h1; omega
  have hi1 : (i : Int) ≤ (cc : Int) := by omega
  have hb1 : (0 : Int) ≤ (i : Int) + 1 := by omega
  have hb3 : (i : Int) + 1 ≤ (l.length : Int) := by omega
  have htn : ((i : Int) + 1).toNat = i + 1 := by omega
  have hw1 : IntKind.i64.wrap ((i : Int) + 1) = (i : Int) + 1 := IntWalk.i64_in _ (by omega)
  obtain ⟨b, o, rfl, hb, hC⟩ := hR (fun h => by subst h; exact absurd hi (Nat.not_lt_zero _))
  have HC : Hid (∀ W, Below w.heap.size w W → ∀ j u, (l.flatMap encT)[j]? = some u → W.cell? ⟨b, o + j, none⟩ = some u) := Lib.hid fun W hW => flat_cell encT_len l (fun j => W.cell? ⟨b, o + j, none⟩) (fun i hi j v hv => by have := (hW.cell (p := ⟨b, o + i * 4 + j, none⟩) hb).trans (hC i hi j v hv); rwa [Nat.add_assoc] at this)
  clear hT hz hC hxn hb hR
  have HT := Lib.hid ht; clear ht
  have HPL := Lib.hid hpl; clear hpl
  go_enter Tryz.func67, Tryz.ntmps67
  go_upto_region 7 with (first | (with_reducible refine ((HT.out _ HS.out).mono ?_); rintro e w' ⟨rfl, hb⟩; replace HS := Lib.hid (SbsAt.kept HS.out hb); replace HX := Lib.hid (RowX.kept HX.out hb); replace HB := Lib.hid (bch' HB.out hb); clear hb) | ((with_reducible refine ((HPL.out _ HX.out).mono ?_)); rintro e w' ⟨rfl, hb⟩; replace HS := Lib.hid (SbsAt.kept HS.out hb); replace HX := Lib.hid (RowX.kept HX.out hb); replace HB := Lib.hid (bch' HB.out hb); clear hb))
  by_cases hci : cc = i + 1
  · subst hci
    have hi2 : (i : Int) ≤ (i : Int) + 1 := by omega
    have hcc : ∀ A m2, m2 = l.length - (i + 1) → Below w.heap.size w A → Calls Tryz.prog 131 #[.slice (some ⟨A.heap.size, 0, none⟩) 2 2] (A.alloc (.cells #[(.slice (some ⟨b, o, none⟩) i (i + 1)), (.slice (some ⟨b, o, none⟩) m2 0)] 25)).drew fun e w' => ∃ p c, e = .returned (.slice p (cutL l i).length c) ∧ OwnR encT 4 w.heap.size 58 w' p c (cutL l i) ∧ Below (A.alloc (.cells #[(.slice (some ⟨b, o, none⟩) i (i + 1)), (.slice (some ⟨b, o, none⟩) m2 0)] 25)).drew.heap.size (A.alloc (.cells #[(.slice (some ⟨b, o, none⟩) i (i + 1)), (.slice (some ⟨b, o, none⟩) m2 0)] 25)).drew w' := fun A m2 hm2 hA => by
      have e1 : (l.take i).length = i := by rw [List.length_take]; omega
      have e2 : (l.drop (i + 1)).length = m2 := by rw [List.length_drop, hm2]
      have h := own_tconcat (A.alloc (.cells #[(.slice (some ⟨b, o, none⟩) i (i + 1)), (.slice (some ⟨b, o, none⟩) m2 0)] 25)).drew (l.take i) (l.drop (i + 1)) A.heap.size b o (i + 1) b (o) 0 (by show A.heap.size < (A.alloc _).heap.size; rw [World.size_alloc]; omega) (by rw [e1]; exact World.cell?_alloc_new _ _ _ _) (by rw [e2]; exact World.cell?_alloc_new _ _ _ _) (fun W hW j u hu => HC.out W (Below.trans (cAl hA _).drew (hW.mono (by have := hA.size; show _ ≤ (A.alloc _).heap.size; rw [World.size_alloc]; omega))) j u (flat_take_get hu)) (fun W hW j u hu => by have e3 : l.drop (i + 1) = [] := List.drop_eq_nil_of_le (by omega); rw [e3] at hu; simp at hu) (by rw [e1, e2]; omega)
      exact h.mono fun e w' ⟨p, c, h1, h2, h3⟩ => ⟨p, c, h1, h2.lower (by have := hA.size; show _ ≤ (A.alloc _).heap.size; rw [World.size_alloc]; omega), h3⟩
    have HCC := Lib.hid hcc; clear hcc
    go_region_held3 (fun W' => Below w.heap.size w W' ∧ True) (first | assumption | exact ⟨HB.out.drew, trivial⟩ | exact ⟨dAl (by assumption) _, trivial⟩ | exact ⟨dTc (by assumption) (by assumption), trivial⟩) (first | (go_at_call 131; with_reducible refine Calls.mono (HCC.out _ _ ?_ ?_) ?_; (first | rfl | omega); (first | exact HB.out | exact HB.out.drew); rintro e w9 ⟨p9, c9, rfl, ho, hb⟩; have HO := Lib.hid ho; clear ho))
    all_goals (go_wp2_with fail; go_ret2)
    all_goals exact ⟨_, _, rfl, HO.out, by first | assumption | exact And.left (by assumption)⟩
  · have hcc : ∀ A m2, m2 = l.length - (i + 1) → Below w.heap.size w A → Calls Tryz.prog 131 #[.slice (some ⟨A.heap.size, 0, none⟩) 2 2] (A.alloc (.cells #[(.slice (some ⟨b, o, none⟩) i cc), (.slice (some ⟨b, o + (i + 1) * 4, none⟩) m2 (cc - (i + 1)))] 25)).drew fun e w' => ∃ p c, e = .returned (.slice p (cutL l i).length c) ∧ OwnR encT 4 w.heap.size 58 w' p c (cutL l i) ∧ Below (A.alloc (.cells #[(.slice (some ⟨b, o, none⟩) i cc), (.slice (some ⟨b, o + (i + 1) * 4, none⟩) m2 (cc - (i + 1)))] 25)).drew.heap.size (A.alloc (.cells #[(.slice (some ⟨b, o, none⟩) i cc), (.slice (some ⟨b, o + (i + 1) * 4, none⟩) m2 (cc - (i + 1)))] 25)).drew w' := fun A m2 hm2 hA => by
      have e1 : (l.take i).length = i := by rw [List.length_take]; omega
      have e2 : (l.drop (i + 1)).length = m2 := by rw [List.length_drop, hm2]
      have h := own_tconcat (A.alloc (.cells #[(.slice (some ⟨b, o, none⟩) i cc), (.slice (some ⟨b, o + (i + 1) * 4, none⟩) m2 (cc - (i + 1)))] 25)).drew (l.take i) (l.drop (i + 1)) A.heap.size b o cc b (o + (i + 1) * 4) (cc - (i + 1)) (by show A.heap.size < (A.alloc _).heap.size; rw [World.size_alloc]; omega) (by rw [e1]; exact World.cell?_alloc_new _ _ _ _) (by rw [e2]; exact World.cell?_alloc_new _ _ _ _) (fun W hW j u hu => HC.out W (Below.trans (cAl hA _).drew (hW.mono (by have := hA.size; show _ ≤ (A.alloc _).heap.size; rw [World.size_alloc]; omega))) j u (flat_take_get hu)) (fun W hW j u hu => by have := HC.out W (Below.trans (cAl hA _).drew (hW.mono (by have := hA.size; show _ ≤ (A.alloc _).heap.size; rw [World.size_alloc]; omega))) _ u (flat_drop_get encT_len hu); rwa [← Nat.add_assoc] at this) (by rw [e1, e2]; omega)
      exact h.mono fun e w' ⟨p, c, h1, h2, h3⟩ => ⟨p, c, h1, h2.lower (by have := hA.size; show _ ≤ (A.alloc _).heap.size; rw [World.size_alloc]; omega), h3⟩
    have HCC := Lib.hid hcc; clear hcc
    go_region_held3 (fun W' => Below w.heap.size w W' ∧ True) (first | assumption | exact ⟨HB.out.drew, trivial⟩ | exact ⟨dAl (by assumption) _, trivial⟩ | exact ⟨dTc (by assumption) (by assumption), trivial⟩) (first | (go_at_call 131; with_reducible refine Calls.mono (HCC.out _ _ ?_ ?_) ?_; (first | rfl | omega); (first | exact HB.out | exact HB.out.drew); rintro e w9 ⟨p9, c9, rfl, ho, hb⟩; have HO := Lib.hid ho; clear ho))
    all_goals (go_wp2_with fail; go_ret2)
    all_goals exact ⟨_, _, rfl, HO.out, by first | assumption | exact And.left (by assumption)⟩

set_option maxRecDepth 100000 in
set_option maxHeartbeats 8000000 in
theorem r26_drop_tab (w : World) (l : List SbT) (pp : Option Addr) (cc : Nat) (n : Int) (hs : SbsAt w (.slice pp l.length cc) (l.map (·.1))) (hz : ¬ tabE (l.map (·.1)) = 0) :
    Calls Tryz.prog 68 #[.slice pp l.length cc, .int .i64 n] w fun e w' => e = .returned (.tuple #[.slice none 0 0, .int .i64 (tabE (l.map (·.1)))]) ∧ Below w.heap.size w w' := by
  have ht := fun W (h : SbsAt W (.slice pp l.length cc) (l.map (·.1))) => r26_table (l.map (·.1)) (.slice pp l.length cc) W h
  have HS := Lib.hid hs; clear hs
  have HB := Lib.hid (Below.refl w.heap.size w)
  have hne : ((tabE (l.map (·.1)) : Int) != 0) = true := by simpa using hz
  generalize tabE (l.map (·.1)) = m at *
  clear hz
  have HT := Lib.hid ht; clear ht
  go_enter Tryz.func68, Tryz.ntmps68
  go_wp2_with (first | (with_reducible refine ((HT.out _ HS.out).mono ?_); rintro e w' ⟨rfl, hb⟩; replace HS := Lib.hid (SbsAt.kept HS.out hb); replace HB := Lib.hid (bch' HB.out hb); clear hb))
  go_ret2
  exact ⟨rfl, HB.out⟩

set_option maxRecDepth 100000 in
set_option maxHeartbeats 8000000 in
theorem r26_drop_no (w : World) (l : List SbT) (pp : Option Addr) (cc : Nat) (n : Int) (hs : SbsAt w (.slice pp l.length cc) (l.map (·.1))) (hR : RowX encT 4 w pp l) (hz : tabE (l.map (·.1)) = 0) (hix : ixOf (fun x => x.nu == n) (l.map (·.1)) = -1) :
    Calls Tryz.prog 68 #[.slice pp l.length cc, .int .i64 n] w fun e w' => e = .returned (.tuple #[.slice none 0 0, .int .i64 (6)]) ∧ Below w.heap.size w w' := by
  have hT := tabOk hz
  have h16 : l.length ≤ 16 := by have := hT.few; rwa [List.length_map] at this
  have ht := fun W (h : SbsAt W (.slice pp l.length cc) (l.map (·.1))) => r26_table (l.map (·.1)) (.slice pp l.length cc) W h
  rw [hz] at ht
  change ∀ W, _ → Calls _ _ _ W (fun e w' => e = .returned (.int .i64 0) ∧ _) at ht
  have hpl := fun W (h : SbsAt W (.slice pp l.length cc) (l.map (·.1))) => r26_place (l.map (·.1)) n (.slice pp l.length cc) W h (by rw [List.length_map]; omega)
  rw [hix] at hpl
  have HX := Lib.hid hR
  have HS := Lib.hid hs; clear hs
  have HB := Lib.hid (Below.refl w.heap.size w)
  clear hT hz hR hix
  have HT := Lib.hid ht; clear ht
  have HPL := Lib.hid hpl; clear hpl
  go_enter Tryz.func68, Tryz.ntmps68
  go_wp2_with (first | (with_reducible refine ((HT.out _ HS.out).mono ?_); rintro e w' ⟨rfl, hb⟩; replace HS := Lib.hid (SbsAt.kept HS.out hb); replace HX := Lib.hid (RowX.kept HX.out hb); replace HB := Lib.hid (bch' HB.out hb); clear hb) | (with_reducible refine ((HPL.out _ HS.out).mono ?_); rintro e w' ⟨rfl, hb⟩; replace HS := Lib.hid (SbsAt.kept HS.out hb); replace HX := Lib.hid (RowX.kept HX.out hb); replace HB := Lib.hid (bch' HB.out hb); clear hb))
  go_ret2
  exact ⟨rfl, HB.out⟩

set_option maxRecDepth 100000 in
set_option maxHeartbeats 8000000 in
theorem r26_drop_hit (w : World) (l : List SbT) (pp : Option Addr) (cc : Nat) (n : Int) (hs : SbsAt w (.slice pp l.length cc) (l.map (·.1))) (hR : RowX encT 4 w pp l) (hz : tabE (l.map (·.1)) = 0) (i : Nat) (hi : i < l.length) (hxn : (sbv (l.map (·.1)) i).nu = n) (hix : ixOf (fun x => x.nu == n) (l.map (·.1)) = (i : Int)) :
    Calls Tryz.prog 68 #[.slice pp l.length cc, .int .i64 n] w fun e w' => ∃ pp cc L, e = .returned (.tuple #[.slice pp L.length cc, .int .i64 0]) ∧ OwnR encS 4 w.heap.size 58 w' pp cc L ∧ HasG w L ∧ L.map (·.1) = dropL (l.map (·.1)) n ∧ Below w.heap.size w w' := by
  have hT := tabOk hz
  have h16 : l.length ≤ 16 := by have := hT.few; rwa [List.length_map] at this
  have ht := fun W (h : SbsAt W (.slice pp l.length cc) (l.map (·.1))) => r26_table (l.map (·.1)) (.slice pp l.length cc) W h
  rw [hz] at ht
  change ∀ W, _ → Calls _ _ _ W (fun e w' => e = .returned (.int .i64 0) ∧ _) at ht
  have hpl := fun W (h : SbsAt W (.slice pp l.length cc) (l.map (·.1))) => r26_place (l.map (·.1)) n (.slice pp l.length cc) W h (by rw [List.length_map]; omega)
  rw [hix] at hpl
  have hwo := fun W (h : Below w.heap.size w W) => r26_without (l.map (·.1)) n (.slice pp l.length cc) W w hs h (by rw [List.length_map]; omega)
  have HX := Lib.hid hR
  have HS := Lib.hid hs; clear hs
  have HB := Lib.hid (Below.refl w.heap.size w)
  have hil : ¬ (i : Int) < 0 := by omega
  clear hT hz hR hxn hix
  have HT := Lib.hid ht; clear ht
  have HPL := Lib.hid hpl; clear hpl
  have HWO := Lib.hid hwo; clear hwo
  go_enter Tryz.func68, Tryz.ntmps68
  go_wp2_with (first | (with_reducible refine ((HT.out _ HS.out).mono ?_); rintro e w' ⟨rfl, hb⟩; replace HS := Lib.hid (SbsAt.kept HS.out hb); replace HX := Lib.hid (RowX.kept HX.out hb); replace HB := Lib.hid (bch' HB.out hb); clear hb) | (with_reducible refine ((HPL.out _ HS.out).mono ?_); rintro e w' ⟨rfl, hb⟩; replace HS := Lib.hid (SbsAt.kept HS.out hb); replace HX := Lib.hid (RowX.kept HX.out hb); replace HB := Lib.hid (bch' HB.out hb); clear hb) | ((with_reducible refine ((HWO.out _ HB.out).mono ?_)); rintro e w' ⟨p1, c1, L, rfl, ho, hg, hm, hb⟩; have HO := Lib.hid ho; have HG2 := Lib.hid hg; have HM := Lib.hid hm; have HW := Lib.hid (HB.out.size); clear ho hg hm; replace HB := Lib.hid (bch' HB.out hb); clear hb))
  go_ret2
  exact ⟨p1, c1, L, rfl, HO.out.lower HW.out, HG2.out, HM.out, HB.out⟩
end Go.Proofs.YtkjelfmgnkkijaaGreatDoor
namespace Lum
open Go Go.RowKit Go.Shelf
open Go.Lib (decDigits itoa)
def FndR (W : World) (s : Sb) (m : Int) (e : Ending) (w' : World) : Prop := ∃ pg cg, e = .returned (.tuple #[.agg #[.int .i64 s.nu, .int .i64 s.pr, .bool s.inh, .slice pg s.gs.length cg], .int .i64 m]) ∧ GnsAt w' (.slice pg s.gs.length cg) s.gs ∧ Below W.heap.size W w'
def TabR (W : World) (L : List Sb) (m : Int) (e : Ending) (w' : World) : Prop := ∃ pp cc, e = .returned (.tuple #[.slice pp L.length cc, .int .i64 m]) ∧ SbsAt w' (.slice pp L.length cc) L ∧ Below W.heap.size W w'
theorem sb_few {s : Sb} (h : sbE s = 0) : s.gs.length ≤ 128 := by
  unfold sbE at h
  by_cases h1 : s.nu < 1 ∨ 1048576 < s.nu ∨ s.pr < 0 ∨ 9 < s.pr
  · rw [subE_num h1] at h; omega
  by_cases h2 : 128 < s.gs.length
  · rw [subE_many h1 h2] at h; omega
  omega
theorem gns_nil (W : World) : GnsAt W (.slice none 0 0) [] := ⟨none, 0, rfl, Nat.le_refl _, fun h => absurd rfl h⟩
theorem insL_map3 {l : List SbT} {i : Nat} {hit : Bool} {x : SbT} : (insL l i hit x).map (·.1) = insL (l.map (·.1)) i hit x.1 := by unfold insL; rw [List.map_append, List.map_cons, List.map_take, List.map_drop]
theorem HasG3.ins {W : World} {l : List SbT} {i : Nat} {hit : Bool} {x : SbT} (h : HasG3 W l) (hx : GnsAt W (.slice x.2.1 x.2.2.1 x.2.2.2) x.1.gs) : HasG3 W (insL l i hit x) := by
  intro y hy
  unfold insL at hy
  rcases List.mem_append.1 hy with g | g
  · exact h y (List.mem_of_mem_take g)
  · rcases List.mem_cons.1 g with g | g
    · subst g; exact hx
    · exact h y (List.mem_of_mem_drop g)
theorem HasG3.cut {W : World} {l : List SbT} {i : Nat} (h : HasG3 W l) : HasG3 W (cutL l i) := by
  intro y hy
  unfold cutL at hy
  rcases List.mem_append.1 hy with g | g
  · exact h y (List.mem_of_mem_take g)
  · exact h y (List.mem_of_mem_drop g)
theorem tab_fnil {W w' : World} {m : Int} {e : Ending} (h : e = .returned (.tuple #[.slice none 0 0, .int .i64 m]) ∧ Below W.heap.size W w') : TabR W [] m e w' := ⟨none, 0, h.1, sbs_nil _, h.2⟩
theorem fnd_nil {W w' : World} {m : Int} {e : Ending} (h : e = .returned (.tuple #[.agg #[.int .i64 0, .int .i64 0, .bool false, .slice none 0 0], .int .i64 m]) ∧ Below W.heap.size W w') : FndR W ⟨0, 0, false, []⟩ m e w' := ⟨none, 0, h.1, gns_nil _, h.2⟩
/-- How many gains each of a table has. -/
def GsFew (L : List Sb) : Prop := ∀ k, k < L.length → (sbv L k).gs.length ≤ 1000000
theorem gsFew_of {L : List Sb} (h : ∀ x ∈ L, x.gs.length ≤ 1000000) : GsFew L := fun k hk => by rw [← sbv_at hk]; exact h _ (List.getElem_mem hk)
theorem tab_gs {su : List Sb} (h : TabOk su) : ∀ x ∈ su, x.gs.length ≤ 1000000 := fun x hx => by
  obtain ⟨j, hj, rfl⟩ := List.getElem_of_mem hx
  have := sb_few (h.ok j hj)
  rw [sbv_at hj]; omega
theorem ins_gs {su : List Sb} {i : Nat} {hit : Bool} {x : Sb} (h : ∀ y ∈ su, y.gs.length ≤ 1000000) (hx : x.gs.length ≤ 1000000) : ∀ y ∈ insL su i hit x, y.gs.length ≤ 1000000 := by
  intro y hy
  unfold insL at hy
  rcases List.mem_append.1 hy with g | g
  · exact h y (List.mem_of_mem_take g)
  · rcases List.mem_cons.1 g with g | g
    · subst g; exact hx
    · exact h y (List.mem_of_mem_drop g)
theorem own_ins {W w' : World} {m : Int} {e : Ending} {l : List SbT} {x : SbT} {i : Nat} {hit : Bool} {t : TypeId} (hg : HasG3 W l) (hx : GnsAt W (.slice x.2.1 x.2.2.1 x.2.2.2) x.1.gs) (h : ∃ pp cc, e = .returned (.tuple #[.slice pp (insL l i hit x).length cc, .int .i64 m]) ∧ OwnR encT 4 W.heap.size t w' pp cc (insL l i hit x) ∧ Below W.heap.size W w') : TabR W (insL (l.map (·.1)) i hit x.1) m e w' := by
  obtain ⟨pp, cc, he, ho, hb⟩ := h
  have hm := (insL_map3 (l := l) (i := i) (hit := hit) (x := x))
  exact ⟨pp, cc, by rw [he, ← hm, List.length_map], ho.subs3 ((hg.ins hx).kept hb) hm, hb⟩
theorem own_cut {W w' : World} {m : Int} {e : Ending} {l : List SbT} {i : Nat} {t : TypeId} (hg : HasG3 W l) (h : ∃ pp cc, e = .returned (.tuple #[.slice pp (cutL l i).length cc, .int .i64 m]) ∧ OwnR encT 4 W.heap.size t w' pp cc (cutL l i) ∧ Below W.heap.size W w') : TabR W (cutL (l.map (·.1)) i) m e w' := by
  obtain ⟨pp, cc, he, ho, hb⟩ := h
  have hm := (cutL_map (l := l) (i := i))
  exact ⟨pp, cc, by rw [he, ← hm, List.length_map], ho.subs3 (hg.cut.kept hb) hm, hb⟩
theorem ref_cut {W w' : World} {m : Int} {e : Ending} {D : List Sb} {t : TypeId} (h : ∃ pp cc L, e = .returned (.tuple #[.slice pp L.length cc, .int .i64 m]) ∧ OwnR encS 4 W.heap.size t w' pp cc L ∧ HasG W L ∧ L.map (·.1) = D ∧ Below W.heap.size W w') : TabR W D m e w' := by
  obtain ⟨pp, cc, L, he, ho, hg, hm, hb⟩ := h
  subst hm
  exact ⟨pp, cc, by rw [he, List.length_map], by rw [List.length_map]; exact ho.subs (fun x hx => (hg x hx).kept hb), hb⟩
end Lum
namespace Go.Proofs.YtkjelfmgnkkijaaGreatDoor
open Go.RowKit Go.Shelf Lum
open Go.Lib (decDigits itoa)
attribute [local go_sem] bs_get bs_extract_end bs_extract_from bs_extract bs_append

set_option maxHeartbeats 4000000 in
theorem g26_tfind (su : List Sb) (n : Int) (n0 : -9223372036854775808 ≤ n) (n1 : n ≤ 9223372036854775807) :
    ∃ (s : Sb) (m : Int), s.gs.length ≤ 1000000 ∧ (∀ W ps zs, SbsAt W (.slice ps su.length zs) su → Calls Tryz.prog 63 #[.slice ps su.length zs, .int .i64 n] W (FndR W s m)) ∧
      (∀ W ps zs, SbsAt W (.slice ps su.length zs) su → Calls Tryz.prog 64 #[.slice ps su.length zs, .int .i64 n] W (FndR W s m)) := by
  by_cases hz : tabE su = 0
  · have hT := tabOk hz
    rcases place_find su n with ⟨i, hi, hix, hxn⟩ | ⟨hix, hno⟩
    · refine ⟨sbv su i, 0, ?_, ?_, ?_⟩
      · have := sb_few (hT.ok i hi); omega
      · intro W ps zs hs
        obtain ⟨l, rfl, hG, hR⟩ := subs_rows3 hs; rw [List.length_map] at hs hi ⊢
        have hy : ∀ y, y = l[i]'hi → sbv (l.map (·.1)) i = y.1 := fun y hy => by rw [hy, map3_at rfl hi]
        refine (own_tfind_hit W l ps zs n hs hR hz n0 n1 i hi _ rfl hxn).mono fun e w' h => ?_
        rw [hy _ rfl]
        have hgl := hG _ (List.getElem_mem hi)
        have hln : (l[i]'hi).2.2.1 = (l[i]'hi).1.gs.length := by obtain ⟨p, c, e, -⟩ := hgl; injection e
        rw [hln] at hgl h
        exact ⟨_, _, h.1, hgl.kept h.2, h.2⟩
      · intro W ps zs hs
        obtain ⟨l, rfl, hG, hR⟩ := subs_rows3 hs; rw [List.length_map] at hs hi ⊢
        have hy : ∀ y, y = l[i]'hi → sbv (l.map (·.1)) i = y.1 := fun y hy => by rw [hy, map3_at rfl hi]
        refine (r26_find_hit W l ps zs n hs hR hz i hi _ rfl hxn hix).mono fun e w' h => ?_
        rw [hy _ rfl]
        have hgl := hG _ (List.getElem_mem hi)
        have hln : (l[i]'hi).2.2.1 = (l[i]'hi).1.gs.length := by obtain ⟨p, c, e, -⟩ := hgl; injection e
        rw [hln] at hgl h
        exact ⟨_, _, h.1, hgl.kept h.2, h.2⟩
    · refine ⟨⟨0, 0, false, []⟩, 6, Nat.zero_le _, ?_, ?_⟩
      · intro W ps zs hs
        obtain ⟨l, rfl, hG, hR⟩ := subs_rows3 hs; rw [List.length_map] at hs hno ⊢
        exact (own_tfind_no W l ps zs n hs hR hz n0 n1 hno).mono fun _ _ h => fnd_nil h
      · intro W ps zs hs
        obtain ⟨l, rfl, hG, hR⟩ := subs_rows3 hs; rw [List.length_map] at hs ⊢
        exact (r26_find_no W l ps zs n hs hR hz hix).mono fun _ _ h => fnd_nil h
  · refine ⟨⟨0, 0, false, []⟩, tabE su, Nat.zero_le _, ?_, ?_⟩
    · intro W ps zs hs
      obtain ⟨l, rfl, hG, hR⟩ := subs_rows3 hs; rw [List.length_map] at hs ⊢
      exact (own_tfind_tab W l ps zs n hs hz).mono fun _ _ h => fnd_nil h
    · intro W ps zs hs
      obtain ⟨l, rfl, hG, hR⟩ := subs_rows3 hs; rw [List.length_map] at hs ⊢
      exact (r26_find_tab W l ps zs n hs hz).mono fun _ _ h => fnd_nil h

set_option maxHeartbeats 4000000 in
theorem g26_tdrop (su : List Sb) (n : Int) (n0 : -9223372036854775808 ≤ n) (n1 : n ≤ 9223372036854775807) :
    ∃ (L : List Sb) (m : Int), L.length ≤ 1000000 ∧ GsFew L ∧ (∀ W ps zs, SbsAt W (.slice ps su.length zs) su → Calls Tryz.prog 67 #[.slice ps su.length zs, .int .i64 n] W (TabR W L m)) ∧
      (∀ W ps zs, SbsAt W (.slice ps su.length zs) su → Calls Tryz.prog 68 #[.slice ps su.length zs, .int .i64 n] W (TabR W L m)) := by
  by_cases hz : tabE su = 0
  · have hT := tabOk hz
    rcases place_find su n with ⟨i, hi, hix, hxn⟩ | ⟨hix, hno⟩
    · refine ⟨cutL su i, 0, ?_, ?_, ?_, ?_⟩
      · rw [cutL_len hi]; have := hT.few; omega
      · refine gsFew_of fun x hx => tab_gs hT x ?_
        unfold cutL at hx
        rcases List.mem_append.1 hx with g | g
        · exact List.mem_of_mem_take g
        · exact List.mem_of_mem_drop g
      · intro W ps zs hs
        obtain ⟨l, rfl, hG, hR⟩ := subs_rows3 hs; rw [List.length_map] at hs hi ⊢
        exact (own_tdrop_hit W l ps zs n hs hR hz n0 n1 i hi hxn).mono fun _ _ h => own_cut hG h
      · intro W ps zs hs
        rw [← drop_cut hT hi hxn]
        obtain ⟨l, rfl, hG, hR⟩ := subs_rows3 hs; rw [List.length_map] at hs hi ⊢
        exact (r26_drop_hit W l ps zs n hs hR hz i hi hxn hix).mono fun _ _ h => ref_cut h
    · refine ⟨[], 6, Nat.zero_le _, fun k hk => absurd hk (Nat.not_lt_zero k), ?_, ?_⟩
      · intro W ps zs hs
        obtain ⟨l, rfl, hG, hR⟩ := subs_rows3 hs; rw [List.length_map] at hs hno ⊢
        exact (own_tdrop_no W l ps zs n hs hR hz n0 n1 hno).mono fun _ _ h => tab_fnil h
      · intro W ps zs hs
        obtain ⟨l, rfl, hG, hR⟩ := subs_rows3 hs; rw [List.length_map] at hs ⊢
        exact (r26_drop_no W l ps zs n hs hR hz hix).mono fun _ _ h => tab_fnil h
  · refine ⟨[], tabE su, Nat.zero_le _, fun k hk => absurd hk (Nat.not_lt_zero k), ?_, ?_⟩
    · intro W ps zs hs
      obtain ⟨l, rfl, hG, hR⟩ := subs_rows3 hs; rw [List.length_map] at hs ⊢
      exact (own_tdrop_tab W l ps zs n hs hz).mono fun _ _ h => tab_fnil h
    · intro W ps zs hs
      obtain ⟨l, rfl, hG, hR⟩ := subs_rows3 hs; rw [List.length_map] at hs ⊢
      exact (r26_drop_tab W l ps zs n hs hz).mono fun _ _ h => tab_fnil h

set_option maxHeartbeats 4000000 in
theorem g26_tput (su : List Sb) (x : Sb) :
    ∃ (L : List Sb) (m : Int), L.length ≤ 1000000 ∧ GsFew L ∧ (∀ W ps zs pg cg, SbsAt W (.slice ps su.length zs) su → GnsAt W (.slice pg x.gs.length cg) x.gs → Calls Tryz.prog 65 #[.slice ps su.length zs, .agg #[.int .i64 x.nu, .int .i64 x.pr, .bool x.inh, .slice pg x.gs.length cg]] W (TabR W L m)) ∧
      (∀ W ps zs pg cg, SbsAt W (.slice ps su.length zs) su → GnsAt W (.slice pg x.gs.length cg) x.gs → Calls Tryz.prog 66 #[.slice ps su.length zs, .agg #[.int .i64 x.nu, .int .i64 x.pr, .bool x.inh, .slice pg x.gs.length cg]] W (TabR W L m)) := by
  by_cases hz : tabE su = 0
  · by_cases hx : subE x.nu x.pr x.inh x.gs = 0
    · have hT := tabOk hz
      have hsx : x.gs.length ≤ 128 := sb_few hx
      obtain ⟨i, hit, hb9⟩ := belongs_tab hT x.nu
      cases hit
      · by_cases hM : su.length = 16
        · refine ⟨[], 5, Nat.zero_le _, fun k hk => absurd hk (Nat.not_lt_zero k), ?_, ?_⟩
          · intro W ps zs pg cg hs hg
            skip
            obtain ⟨l, rfl, hG, hR⟩ := subs_rows3 hs; rw [List.length_map] at hs hb9 hM ⊢
            exact (own_tput_many W l (x, pg, x.gs.length, cg) ps zs hs hg hR hz hx i hb9 hM).mono fun _ _ h => tab_fnil h
          · intro W ps zs pg cg hs hg
            skip
            obtain ⟨l, rfl, hG, hR⟩ := subs_rows3 hs; rw [List.length_map] at hs hb9 hM ⊢
            exact (r26_put_many W l (x, pg, x.gs.length, cg) ps zs hs hg hR hz hx i hb9 hM).mono fun _ _ h => tab_fnil h
        · refine ⟨insL su i false x, 0, ?_, gsFew_of (ins_gs (tab_gs hT) (by omega)), ?_, ?_⟩
          · rw [insL_len_miss hb9.le]; have := hT.few; omega
          · intro W ps zs pg cg hs hg
            skip
            obtain ⟨l, rfl, hG, hR⟩ := subs_rows3 hs; rw [List.length_map] at hs hb9 hM ⊢
            exact (own_tput_new W l (x, pg, x.gs.length, cg) ps zs hs hg hR hz hx i hb9 hM).mono fun _ _ h => own_ins (x := (x, pg, x.gs.length, cg)) hG hg h
          · intro W ps zs pg cg hs hg
            skip
            obtain ⟨l, rfl, hG, hR⟩ := subs_rows3 hs; rw [List.length_map] at hs hb9 hM ⊢
            exact (r26_put_new W l (x, pg, x.gs.length, cg) ps zs hs hg hR hz hx i hb9 hM).mono fun _ _ h => own_ins (x := (x, pg, x.gs.length, cg)) hG hg h
      · refine ⟨insL su i true x, 0, ?_, gsFew_of (ins_gs (tab_gs hT) (by omega)), ?_, ?_⟩
        · rw [insL_len_hit (hb9.yes rfl).1]; have := hT.few; omega
        · intro W ps zs pg cg hs hg
          skip
          obtain ⟨l, rfl, hG, hR⟩ := subs_rows3 hs; rw [List.length_map] at hs hb9 ⊢
          exact (own_tput_hit W l (x, pg, x.gs.length, cg) ps zs hs hg hR hz hx i hb9).mono fun _ _ h => own_ins (x := (x, pg, x.gs.length, cg)) hG hg h
        · intro W ps zs pg cg hs hg
          skip
          obtain ⟨l, rfl, hG, hR⟩ := subs_rows3 hs; rw [List.length_map] at hs hb9 ⊢
          exact (r26_put_hit W l (x, pg, x.gs.length, cg) ps zs hs hg hR hz hx i hb9).mono fun _ _ h => own_ins (x := (x, pg, x.gs.length, cg)) hG hg h
    · refine ⟨[], subE x.nu x.pr x.inh x.gs, Nat.zero_le _, fun k hk => absurd hk (Nat.not_lt_zero k), ?_, ?_⟩
      · intro W ps zs pg cg hs hg
        obtain ⟨l, rfl, hG, hR⟩ := subs_rows3 hs; rw [List.length_map] at hs ⊢
        exact (own_tput_sub W l (x, pg, x.gs.length, cg) ps zs hs hg hz hx).mono fun _ _ h => tab_fnil h
      · intro W ps zs pg cg hs hg
        obtain ⟨l, rfl, hG, hR⟩ := subs_rows3 hs; rw [List.length_map] at hs ⊢
        exact (r26_put_sub W l (x, pg, x.gs.length, cg) ps zs hs hg hz hx).mono fun _ _ h => tab_fnil h
  · refine ⟨[], tabE su, Nat.zero_le _, fun k hk => absurd hk (Nat.not_lt_zero k), ?_, ?_⟩
    · intro W ps zs pg cg hs hg
      obtain ⟨l, rfl, hG, hR⟩ := subs_rows3 hs; rw [List.length_map] at hs ⊢
      exact (own_tput_tab W l (x, pg, x.gs.length, cg) ps zs hs hg hz).mono fun _ _ h => tab_fnil h
    · intro W ps zs pg cg hs hg
      obtain ⟨l, rfl, hG, hR⟩ := subs_rows3 hs; rw [List.length_map] at hs ⊢
      exact (r26_put_tab W l (x, pg, x.gs.length, cg) ps zs hs hg hz).mono fun _ _ h => tab_fnil h

set_option maxRecDepth 100000 in
set_option maxHeartbeats 8000000 in
theorem law_tables (nu pr n : Int) (inh : Bool) (gs : List Gn) (su : List Sb) (gv sv : Value) (w : World) (hv : GnsAt w gv gs) (hs : SbsAt w sv su) (n0 : -9223372036854775808 ≤ n) (n1 : n ≤ 9223372036854775807) (env : Env w) :
    Calls Tryz.prog 13 #[sv, .agg #[.int .i64 nu, .int .i64 pr, .bool inh, gv], .int .i64 n] w fun e w' => e = .returned (.bool true) ∧ Below w.heap.size w w' := by
  obtain ⟨pg, cg, rfl⟩ : ∃ pg cg, gv = .slice pg gs.length cg := by obtain ⟨pg, cg, e, -⟩ := hv; exact ⟨pg, cg, e⟩
  obtain ⟨ps, zs, rfl⟩ : ∃ ps zs, sv = .slice ps su.length zs := by obtain ⟨ps, zs, e, -⟩ := hs; exact ⟨ps, zs, e⟩
  have ENV := Lib.hid env; clear env
  have HK := Lib.hid (Blk.new w 58 #[.int .i64 nu, .int .i64 pr, .bool (inh), (.slice pg gs.length cg)])
  have hal := (Below.refl w.heap.size w).alloc (Nat.le_refl _) (.cells #[.int .i64 nu, .int .i64 pr, .bool (inh), (.slice pg gs.length cg)] 58)
  have HV := Lib.hid (GnsAt.kept hv hal)
  have HS := Lib.hid (SbsAt.kept hs hal)
  have HB := Lib.hid hal; clear hal hv hs
  obtain ⟨k0, k1, k2, k3, kf0, kf1, kf2, kf3⟩ := HK.out.c4
  have haw := fun W (e : Env W) => l26_awake W e
  have hfe := fun su sv W (h : SbsAt W sv su) => r26_few su sv W h
  have HAW := Lib.hid haw; clear haw
  have HFE := Lib.hid hfe; clear hfe
  go_enter Tryz.func13, Tryz.ntmps13
  go_wp2_with fail
  generalize w.alloc (.cells #[.int .i64 nu, .int .i64 pr, .bool (inh), (.slice pg gs.length cg)] 58) = w1 at *
  with_reducible refine ((HFE.out _ _ _ HS.out).mono ?_)
  rintro e w2 ⟨b1, rfl, -, hb⟩
  replace HK := Lib.hid (HK.out.keep hb); clear k0 k1 k2 k3 kf0 kf1 kf2 kf3; replace HV := Lib.hid (GnsAt.kept HV.out hb); replace HS := Lib.hid (SbsAt.kept HS.out hb); replace HB := Lib.hid (bch' HB.out hb); clear hb; obtain ⟨k0, k1, k2, k3, kf0, kf1, kf2, kf3⟩ := HK.out.c4
  cases b1
  · go_wp2_with (first | (with_reducible refine ((HAW.out _ (ENV.out.below HB.out)).mono ?_); rintro e w' ⟨rfl, hb⟩; replace HK := Lib.hid (HK.out.keep hb); clear k0 k1 k2 k3 kf0 kf1 kf2 kf3; replace HV := Lib.hid (GnsAt.kept HV.out hb); replace HS := Lib.hid (SbsAt.kept HS.out hb); replace HB := Lib.hid (bch' HB.out hb); clear hb; obtain ⟨k0, k1, k2, k3, kf0, kf1, kf2, kf3⟩ := HK.out.c4))
    go_ret
    exact ⟨rfl, HB.out⟩
  · go_wp2_with fail
    have hal := (Below.refl w2.heap.size w2).alloc (Nat.le_refl _) (.cells #[.int .i64 nu, .int .i64 pr, .bool (inh), (.slice pg gs.length cg)] 58)
    with_reducible refine ((HFE.out _ _ _ (sbs_one (Blk.new w2 58 #[.int .i64 nu, .int .i64 pr, .bool (inh), (.slice pg gs.length cg)]) (GnsAt.kept HV.out hal))).mono ?_)
    rintro e w3 ⟨b2, rfl, -, hb⟩
    replace HK := Lib.hid ((HK.out.keep hal).keep hb)
    clear k0 k1 k2 k3 kf0 kf1 kf2 kf3
    replace HV := Lib.hid (GnsAt.kept (GnsAt.kept HV.out hal) hb)
    replace HS := Lib.hid (SbsAt.kept (SbsAt.kept HS.out hal) hb)
    replace HB := Lib.hid (bch' (bch' HB.out hal) hb)
    clear hal hb
    obtain ⟨k0, k1, k2, k3, kf0, kf1, kf2, kf3⟩ := HK.out.c4
    cases b2
    · go_wp2_with (first | (with_reducible refine ((HAW.out _ (ENV.out.below HB.out)).mono ?_); rintro e w' ⟨rfl, hb⟩; replace HK := Lib.hid (HK.out.keep hb); clear k0 k1 k2 k3 kf0 kf1 kf2 kf3; replace HV := Lib.hid (GnsAt.kept HV.out hb); replace HS := Lib.hid (SbsAt.kept HS.out hb); replace HB := Lib.hid (bch' HB.out hb); clear hb; obtain ⟨k0, k1, k2, k3, kf0, kf1, kf2, kf3⟩ := HK.out.c4))
      go_ret
      exact ⟨rfl, HB.out⟩
    · obtain ⟨s, m, hsl, hf1, hf2⟩ := g26_tfind su n n0 n1
      obtain ⟨L, m1, hLn, hLg, hp1, hp2⟩ := g26_tput su ⟨nu, pr, inh, gs⟩
      obtain ⟨D, m2, hDn, hDg, hd1, hd2⟩ := g26_tdrop su n n0 n1
      dsimp only at hp1 hp2
      have hsm := fun g1 g2 W (h1 : GnsAt W g1 s.gs) (h2 : GnsAt W g2 s.gs) => r26_same s.nu s.pr s.inh s.gs g1 g2 W h1 h2 hsl
      have ht1 := fun va vb W (h1 : SbsAt W va L) (h2 : SbsAt W vb L) => r26_sametable L va vb W h1 h2 hLn hLg
      have ht2 := fun va vb W (h1 : SbsAt W va D) (h2 : SbsAt W vb D) => r26_sametable D va vb W h1 h2 hDn hDg
      clear hsl hLn hLg hDn hDg
      have HF1 := Lib.hid hf1; clear hf1
      have HF2 := Lib.hid hf2; clear hf2
      have HP1 := Lib.hid hp1; clear hp1
      have HP2 := Lib.hid hp2; clear hp2
      have HD1 := Lib.hid hd1; clear hd1
      have HD2 := Lib.hid hd2; clear hd2
      have HSM := Lib.hid hsm; clear hsm
      have HT1 := Lib.hid ht1; clear ht1
      have HT2 := Lib.hid ht2; clear ht2
      go_wp2_with fail
      refine ((HF1.out _ _ _ HS.out).mono ?_)
      rintro e wx ⟨p1, c1, rfl, hg, hb⟩
      have HG1 := Lib.hid hg; clear hg
      replace HK := Lib.hid (HK.out.keep hb); clear k0 k1 k2 k3 kf0 kf1 kf2 kf3; replace HV := Lib.hid (GnsAt.kept HV.out hb); replace HS := Lib.hid (SbsAt.kept HS.out hb); replace HB := Lib.hid (bch' HB.out hb); clear hb; obtain ⟨k0, k1, k2, k3, kf0, kf1, kf2, kf3⟩ := HK.out.c4
      go_upto_region 4 with fail
      have hb : Below wx.heap.size wx (wx.alloc (.cells #[(.int .i64 s.nu), (.int .i64 s.pr), (.bool s.inh), (.slice p1 s.gs.length c1)] 58)) := ((Below.refl wx.heap.size wx).alloc (Nat.le_refl _) (.cells #[(.int .i64 s.nu), (.int .i64 s.pr), (.bool s.inh), (.slice p1 s.gs.length c1)] 58))
      have HX := Lib.hid (Blk.new wx 58 #[(.int .i64 s.nu), (.int .i64 s.pr), (.bool s.inh), (.slice p1 s.gs.length c1)])
      replace HK := Lib.hid (HK.out.keep hb); clear k0 k1 k2 k3 kf0 kf1 kf2 kf3; replace HV := Lib.hid (GnsAt.kept HV.out hb); replace HS := Lib.hid (SbsAt.kept HS.out hb); replace HG1 := Lib.hid (GnsAt.kept HG1.out hb); replace HB := Lib.hid (bch' HB.out hb); clear hb; obtain ⟨k0, k1, k2, k3, kf0, kf1, kf2, kf3⟩ := HK.out.c4
      generalize (wx.alloc (.cells #[(.int .i64 s.nu), (.int .i64 s.pr), (.bool s.inh), (.slice p1 s.gs.length c1)] 58)) = wxa at *
      generalize wx.heap.size = wxg at *
      obtain ⟨x0, x1, x2, x3, xf0, xf1, xf2, xf3⟩ := HX.out.c4
      go_wp2_with fail
      refine ((HF2.out _ _ _ HS.out).mono ?_)
      rintro e wy ⟨p2, c2, rfl, hg, hb⟩
      have HG2 := Lib.hid hg; clear hg
      replace HK := Lib.hid (HK.out.keep hb); clear k0 k1 k2 k3 kf0 kf1 kf2 kf3; replace HX := Lib.hid (HX.out.keep hb); clear x0 x1 x2 x3 xf0 xf1 xf2 xf3; replace HV := Lib.hid (GnsAt.kept HV.out hb); replace HS := Lib.hid (SbsAt.kept HS.out hb); replace HG1 := Lib.hid (GnsAt.kept HG1.out hb); replace HB := Lib.hid (bch' HB.out hb); clear hb; obtain ⟨k0, k1, k2, k3, kf0, kf1, kf2, kf3⟩ := HK.out.c4; obtain ⟨x0, x1, x2, x3, xf0, xf1, xf2, xf3⟩ := HX.out.c4
      go_upto_region 5 with fail
      have hb : Below wy.heap.size wy (wy.alloc (.cells #[(.int .i64 s.nu), (.int .i64 s.pr), (.bool s.inh), (.slice p2 s.gs.length c2)] 58)) := ((Below.refl wy.heap.size wy).alloc (Nat.le_refl _) (.cells #[(.int .i64 s.nu), (.int .i64 s.pr), (.bool s.inh), (.slice p2 s.gs.length c2)] 58))
      have HY := Lib.hid (Blk.new wy 58 #[(.int .i64 s.nu), (.int .i64 s.pr), (.bool s.inh), (.slice p2 s.gs.length c2)])
      replace HK := Lib.hid (HK.out.keep hb); clear k0 k1 k2 k3 kf0 kf1 kf2 kf3; replace HX := Lib.hid (HX.out.keep hb); clear x0 x1 x2 x3 xf0 xf1 xf2 xf3; replace HV := Lib.hid (GnsAt.kept HV.out hb); replace HS := Lib.hid (SbsAt.kept HS.out hb); replace HG1 := Lib.hid (GnsAt.kept HG1.out hb); replace HG2 := Lib.hid (GnsAt.kept HG2.out hb); replace HB := Lib.hid (bch' HB.out hb); clear hb; obtain ⟨k0, k1, k2, k3, kf0, kf1, kf2, kf3⟩ := HK.out.c4; obtain ⟨x0, x1, x2, x3, xf0, xf1, xf2, xf3⟩ := HX.out.c4
      generalize (wy.alloc (.cells #[(.int .i64 s.nu), (.int .i64 s.pr), (.bool s.inh), (.slice p2 s.gs.length c2)] 58)) = wya at *
      generalize wy.heap.size = wyg at *
      obtain ⟨y0, y1, y2, y3, yf0, yf1, yf2, yf3⟩ := HY.out.c4
      go_wp2_with (first | ((with_reducible refine ((HP1.out _ _ _ _ _ HS.out HV.out).mono ?_)); rintro e w' ⟨p3, c3, rfl, ha, hb⟩; have HA := Lib.hid ha; clear ha; replace HK := Lib.hid (HK.out.keep hb); clear k0 k1 k2 k3 kf0 kf1 kf2 kf3; replace HX := Lib.hid (HX.out.keep hb); clear x0 x1 x2 x3 xf0 xf1 xf2 xf3; replace HY := Lib.hid (HY.out.keep hb); clear y0 y1 y2 y3 yf0 yf1 yf2 yf3; replace HV := Lib.hid (GnsAt.kept HV.out hb); replace HS := Lib.hid (SbsAt.kept HS.out hb); replace HG1 := Lib.hid (GnsAt.kept HG1.out hb); replace HG2 := Lib.hid (GnsAt.kept HG2.out hb); replace HB := Lib.hid (bch' HB.out hb); clear hb; obtain ⟨k0, k1, k2, k3, kf0, kf1, kf2, kf3⟩ := HK.out.c4; obtain ⟨x0, x1, x2, x3, xf0, xf1, xf2, xf3⟩ := HX.out.c4; obtain ⟨y0, y1, y2, y3, yf0, yf1, yf2, yf3⟩ := HY.out.c4) | ((with_reducible refine ((HP2.out _ _ _ _ _ HS.out HV.out).mono ?_)); rintro e w' ⟨p4, c4, rfl, ha, hb⟩; have HC := Lib.hid ha; clear ha; replace HK := Lib.hid (HK.out.keep hb); clear k0 k1 k2 k3 kf0 kf1 kf2 kf3; replace HX := Lib.hid (HX.out.keep hb); clear x0 x1 x2 x3 xf0 xf1 xf2 xf3; replace HY := Lib.hid (HY.out.keep hb); clear y0 y1 y2 y3 yf0 yf1 yf2 yf3; replace HV := Lib.hid (GnsAt.kept HV.out hb); replace HS := Lib.hid (SbsAt.kept HS.out hb); replace HG1 := Lib.hid (GnsAt.kept HG1.out hb); replace HG2 := Lib.hid (GnsAt.kept HG2.out hb); replace HA := Lib.hid (SbsAt.kept HA.out hb); replace HB := Lib.hid (bch' HB.out hb); clear hb; obtain ⟨k0, k1, k2, k3, kf0, kf1, kf2, kf3⟩ := HK.out.c4; obtain ⟨x0, x1, x2, x3, xf0, xf1, xf2, xf3⟩ := HX.out.c4; obtain ⟨y0, y1, y2, y3, yf0, yf1, yf2, yf3⟩ := HY.out.c4) | ((with_reducible refine ((HD1.out _ _ _ HS.out).mono ?_)); rintro e w' ⟨p5, c5, rfl, ha, hb⟩; have HD := Lib.hid ha; clear ha; replace HK := Lib.hid (HK.out.keep hb); clear k0 k1 k2 k3 kf0 kf1 kf2 kf3; replace HX := Lib.hid (HX.out.keep hb); clear x0 x1 x2 x3 xf0 xf1 xf2 xf3; replace HY := Lib.hid (HY.out.keep hb); clear y0 y1 y2 y3 yf0 yf1 yf2 yf3; replace HV := Lib.hid (GnsAt.kept HV.out hb); replace HS := Lib.hid (SbsAt.kept HS.out hb); replace HG1 := Lib.hid (GnsAt.kept HG1.out hb); replace HG2 := Lib.hid (GnsAt.kept HG2.out hb); replace HA := Lib.hid (SbsAt.kept HA.out hb); replace HC := Lib.hid (SbsAt.kept HC.out hb); replace HB := Lib.hid (bch' HB.out hb); clear hb; obtain ⟨k0, k1, k2, k3, kf0, kf1, kf2, kf3⟩ := HK.out.c4; obtain ⟨x0, x1, x2, x3, xf0, xf1, xf2, xf3⟩ := HX.out.c4; obtain ⟨y0, y1, y2, y3, yf0, yf1, yf2, yf3⟩ := HY.out.c4) | ((with_reducible refine ((HD2.out _ _ _ HS.out).mono ?_)); rintro e w' ⟨p6, c6, rfl, ha, hb⟩; have HE := Lib.hid ha; clear ha; replace HK := Lib.hid (HK.out.keep hb); clear k0 k1 k2 k3 kf0 kf1 kf2 kf3; replace HX := Lib.hid (HX.out.keep hb); clear x0 x1 x2 x3 xf0 xf1 xf2 xf3; replace HY := Lib.hid (HY.out.keep hb); clear y0 y1 y2 y3 yf0 yf1 yf2 yf3; replace HV := Lib.hid (GnsAt.kept HV.out hb); replace HS := Lib.hid (SbsAt.kept HS.out hb); replace HG1 := Lib.hid (GnsAt.kept HG1.out hb); replace HG2 := Lib.hid (GnsAt.kept HG2.out hb); replace HA := Lib.hid (SbsAt.kept HA.out hb); replace HC := Lib.hid (SbsAt.kept HC.out hb); replace HD := Lib.hid (SbsAt.kept HD.out hb); replace HB := Lib.hid (bch' HB.out hb); clear hb; obtain ⟨k0, k1, k2, k3, kf0, kf1, kf2, kf3⟩ := HK.out.c4; obtain ⟨x0, x1, x2, x3, xf0, xf1, xf2, xf3⟩ := HX.out.c4; obtain ⟨y0, y1, y2, y3, yf0, yf1, yf2, yf3⟩ := HY.out.c4) | (with_reducible refine ((HAW.out _ (ENV.out.below HB.out)).mono ?_); rintro e w' ⟨rfl, hb⟩; replace HK := Lib.hid (HK.out.keep hb); clear k0 k1 k2 k3 kf0 kf1 kf2 kf3; replace HX := Lib.hid (HX.out.keep hb); clear x0 x1 x2 x3 xf0 xf1 xf2 xf3; replace HY := Lib.hid (HY.out.keep hb); clear y0 y1 y2 y3 yf0 yf1 yf2 yf3; replace HV := Lib.hid (GnsAt.kept HV.out hb); replace HS := Lib.hid (SbsAt.kept HS.out hb); replace HG1 := Lib.hid (GnsAt.kept HG1.out hb); replace HG2 := Lib.hid (GnsAt.kept HG2.out hb); replace HA := Lib.hid (SbsAt.kept HA.out hb); replace HC := Lib.hid (SbsAt.kept HC.out hb); replace HD := Lib.hid (SbsAt.kept HD.out hb); replace HE := Lib.hid (SbsAt.kept HE.out hb); replace HB := Lib.hid (bch' HB.out hb); clear hb; obtain ⟨k0, k1, k2, k3, kf0, kf1, kf2, kf3⟩ := HK.out.c4; obtain ⟨x0, x1, x2, x3, xf0, xf1, xf2, xf3⟩ := HX.out.c4; obtain ⟨y0, y1, y2, y3, yf0, yf1, yf2, yf3⟩ := HY.out.c4) | (with_reducible refine ((HSM.out _ _ _ HG1.out HG2.out).mono ?_); rintro e w' ⟨rfl, hb⟩; replace HK := Lib.hid (HK.out.keep hb); clear k0 k1 k2 k3 kf0 kf1 kf2 kf3; replace HX := Lib.hid (HX.out.keep hb); clear x0 x1 x2 x3 xf0 xf1 xf2 xf3; replace HY := Lib.hid (HY.out.keep hb); clear y0 y1 y2 y3 yf0 yf1 yf2 yf3; replace HV := Lib.hid (GnsAt.kept HV.out hb); replace HS := Lib.hid (SbsAt.kept HS.out hb); replace HG1 := Lib.hid (GnsAt.kept HG1.out hb); replace HG2 := Lib.hid (GnsAt.kept HG2.out hb); replace HA := Lib.hid (SbsAt.kept HA.out hb); replace HC := Lib.hid (SbsAt.kept HC.out hb); replace HD := Lib.hid (SbsAt.kept HD.out hb); replace HE := Lib.hid (SbsAt.kept HE.out hb); replace HB := Lib.hid (bch' HB.out hb); clear hb; obtain ⟨k0, k1, k2, k3, kf0, kf1, kf2, kf3⟩ := HK.out.c4; obtain ⟨x0, x1, x2, x3, xf0, xf1, xf2, xf3⟩ := HX.out.c4; obtain ⟨y0, y1, y2, y3, yf0, yf1, yf2, yf3⟩ := HY.out.c4) | (with_reducible refine ((HT1.out _ _ _ HA.out HC.out).mono ?_); rintro e w' ⟨rfl, hb⟩; replace HK := Lib.hid (HK.out.keep hb); clear k0 k1 k2 k3 kf0 kf1 kf2 kf3; replace HX := Lib.hid (HX.out.keep hb); clear x0 x1 x2 x3 xf0 xf1 xf2 xf3; replace HY := Lib.hid (HY.out.keep hb); clear y0 y1 y2 y3 yf0 yf1 yf2 yf3; replace HV := Lib.hid (GnsAt.kept HV.out hb); replace HS := Lib.hid (SbsAt.kept HS.out hb); replace HG1 := Lib.hid (GnsAt.kept HG1.out hb); replace HG2 := Lib.hid (GnsAt.kept HG2.out hb); replace HA := Lib.hid (SbsAt.kept HA.out hb); replace HC := Lib.hid (SbsAt.kept HC.out hb); replace HD := Lib.hid (SbsAt.kept HD.out hb); replace HE := Lib.hid (SbsAt.kept HE.out hb); replace HB := Lib.hid (bch' HB.out hb); clear hb; obtain ⟨k0, k1, k2, k3, kf0, kf1, kf2, kf3⟩ := HK.out.c4; obtain ⟨x0, x1, x2, x3, xf0, xf1, xf2, xf3⟩ := HX.out.c4; obtain ⟨y0, y1, y2, y3, yf0, yf1, yf2, yf3⟩ := HY.out.c4) | (with_reducible refine ((HT2.out _ _ _ HD.out HE.out).mono ?_); rintro e w' ⟨rfl, hb⟩; replace HK := Lib.hid (HK.out.keep hb); clear k0 k1 k2 k3 kf0 kf1 kf2 kf3; replace HX := Lib.hid (HX.out.keep hb); clear x0 x1 x2 x3 xf0 xf1 xf2 xf3; replace HY := Lib.hid (HY.out.keep hb); clear y0 y1 y2 y3 yf0 yf1 yf2 yf3; replace HV := Lib.hid (GnsAt.kept HV.out hb); replace HS := Lib.hid (SbsAt.kept HS.out hb); replace HG1 := Lib.hid (GnsAt.kept HG1.out hb); replace HG2 := Lib.hid (GnsAt.kept HG2.out hb); replace HA := Lib.hid (SbsAt.kept HA.out hb); replace HC := Lib.hid (SbsAt.kept HC.out hb); replace HD := Lib.hid (SbsAt.kept HD.out hb); replace HE := Lib.hid (SbsAt.kept HE.out hb); replace HB := Lib.hid (bch' HB.out hb); clear hb; obtain ⟨k0, k1, k2, k3, kf0, kf1, kf2, kf3⟩ := HK.out.c4; obtain ⟨x0, x1, x2, x3, xf0, xf1, xf2, xf3⟩ := HX.out.c4; obtain ⟨y0, y1, y2, y3, yf0, yf1, yf2, yf3⟩ := HY.out.c4))
      go_ret
      exact ⟨rfl, HB.out⟩
end Go.Proofs.YtkjelfmgnkkijaaGreatDoor
