/-
  Law 26: Front, Dim, standing; awake.
-/
import Derived.Test.YtkjelfmgnkkijaaGreatDoorSd
import Derived.Test.YtkjelfmgnkkijaaGreatDoorSb
set_option linter.unusedVariables false
set_option linter.unusedSimpArgs false
namespace Lum
open Go Go.RowKit Go.Shelf
open Go.Lib (decDigits itoa)
theorem blkN1 (w : World) (o : Obj) (t : TypeId) (cs : Array Value) : Blk ((w.alloc o).alloc (.cells cs t)) (w.heap.size + 1) t cs := by
  have h := Blk.new (w.alloc o) t cs
  rwa [World.size_alloc] at h
def frontG : List Gn := [⟨1, 0, 40000⟩, ⟨1, 1, 500⟩]
theorem gns_front {W : World} {g : Nat} {t : TypeId} (h : Blk W g t #[.int .i64 1, .int .i64 0, .int .i64 40000, .int .i64 1, .int .i64 1, .int .i64 500]) : GnsAt W (.slice (some ⟨g, 0, none⟩) 2 2) frontG := by
  refine ⟨_, _, rfl, Nat.le_refl _, fun _ => ⟨g, 0, rfl, h.lt, fun i hi => ?_⟩⟩
  match i, hi with
  | 0, _ => exact ⟨h.c6.1, h.c6.2.1, h.c6.2.2.1⟩
  | 1, _ => exact ⟨h.c6.2.2.2.1, h.c6.2.2.2.2.1, h.c6.2.2.2.2.2.1⟩
theorem gns_one {W : World} {g : Nat} {t : TypeId} {v : Int} (h : Blk W g t #[.int .i64 1, .int .i64 0, .int .i64 v]) : GnsAt W (.slice (some ⟨g, 0, none⟩) 1 1) [⟨1, 0, v⟩] := by
  refine ⟨_, _, rfl, Nat.le_refl _, fun _ => ⟨g, 0, rfl, h.lt, fun i hi => ?_⟩⟩
  match i, hi with
  | 0, _ => exact ⟨h.c3.1, h.c3.2.1, h.c3.2.2.1⟩
theorem belongs_nil {nu : Int} : Belongs (fun k => (fdv [] k).su) ([] : List Fdr).length nu 0 false := ⟨Nat.le_refl _, fun _ h => absurd h (Nat.not_lt_zero _), (fun h => by cases h), fun _ _ _ h => absurd h (Nat.not_lt_zero _), fun _ _ h => absurd h (Nat.not_lt_zero _)⟩
theorem belongs_hit (x : Fdr) {nu : Int} (h : x.su = nu) : Belongs (fun k => (fdv [x] k).su) [x].length nu 0 true := ⟨by simp, fun _ h => absurd h (Nat.not_lt_zero _), fun _ => ⟨by simp, h⟩, (fun h => by cases h), fun j h1 h2 => by simp at h2; omega⟩
theorem len_one {x : Fdr} (h : x.fr.length ≤ 1000) : ∀ i, i < [x].length → (fdv [x] i).fr.length ≤ 1000 := fun i hi => by
  obtain rfl : i = 0 := by simpa using hi
  exact h
end Lum
namespace Go.Proofs.YtkjelfmgnkkijaaGreatDoor
open Go.RowKit Go.Shelf Lum
open Go.Lib (decDigits itoa)
attribute [local go_sem] bs_get bs_extract_end bs_extract_from bs_extract bs_append

set_option maxRecDepth 100000 in
set_option maxHeartbeats 2000000 in
theorem l26_front (w : World) :
    Calls Tryz.prog 95 #[] w fun e w' => ∃ gv, e = .returned (.agg #[.int .i64 3, .int .i64 0, .bool false, gv]) ∧ GnsAt w' gv frontG ∧ Below w.heap.size w w' := by
  go_enter Tryz.func95, Tryz.ntmps95
  go_wp2
  refine bodyPost_ret_by (v := .agg #[.int .i64 3, .int .i64 0, .bool false, .slice (some ⟨w.heap.size + 1, 0, none⟩) 2 2]) (by simp [results, Tryz.f95, go_sem]) rfl ⟨_, rfl, gns_front (blkN1 w _ 85 _), ((Below.refl _ _).alloc (Nat.le_refl _) _).alloc (by simp) _⟩

set_option maxRecDepth 100000 in
set_option maxHeartbeats 2000000 in
theorem l26_dim (v : Int) (w : World) :
    Calls Tryz.prog 96 #[.int .i64 v] w fun e w' => ∃ gv, e = .returned (.agg #[.int .i64 4, .int .i64 0, .bool true, gv]) ∧ GnsAt w' gv [⟨1, 0, v⟩] ∧ Below w.heap.size w w' := by
  go_enter Tryz.func96, Tryz.ntmps96
  go_wp2
  refine bodyPost_ret_by (v := .agg #[.int .i64 4, .int .i64 0, .bool true, .slice (some ⟨w.heap.size + 1, 0, none⟩) 1 1]) (by simp [results, Tryz.f96, go_sem]) rfl ⟨_, rfl, gns_one (blkN1 w _ 85 _), ((Below.refl _ _).alloc (Nat.le_refl _) _).alloc (by simp) _⟩

set_option maxRecDepth 100000 in
set_option maxHeartbeats 2000000 in
theorem l26_standing (n v : Int) (w : World) :
    Calls Tryz.prog 45 #[.int .i64 n, .int .i64 v] w fun e w' => ∃ lv, e = .returned lv ∧ FdsAt w' lv [fdN n v] ∧ Below w.heap.size w w' := by
  go_enter Tryz.func45, Tryz.ntmps45
  go_wp2
  go_ret
  exact ⟨_, rfl, fds_one (Blk.new w _ _), (Below.refl _ _).alloc (Nat.le_refl _) _⟩

set_option maxRecDepth 100000 in
set_option maxHeartbeats 16000000 in
theorem l26_awake (w : World) (env : Env w) :
    Calls Tryz.prog 31 #[] w fun e w' => e = .returned (.bool (true)) ∧ Below w.heap.size w w' := by
  have ENV := Lib.hid env; clear env
  have HB := Lib.hid (Below.refl w.heap.size w)
  have hfr := fun W => l26_front W
  have hdi := fun v W => l26_dim v W
  have hst := fun n v W => l26_standing n v W
  have HFR := Lib.hid hfr; clear hfr
  have HDI := Lib.hid hdi; clear hdi
  have HST := Lib.hid hst; clear hst
  go_enter Tryz.func31, Tryz.ntmps31
  go_wp2_with fail
  refine ((HFR.out _).mono ?_)
  rintro e w1 ⟨gv1, rfl, hg1, hb⟩
  have HG1 := Lib.hid hg1; clear hg1
  replace HB := Lib.hid (bch' HB.out hb); clear hb
  go_wp2_with fail
  refine ((HST.out 3 13107 _).mono ?_)
  rintro e w2 ⟨lv2, rfl, hl2, hb⟩
  replace HG1 := Lib.hid (GnsAt.kept HG1.out hb)
  have HL2 := Lib.hid hl2; clear hl2
  replace HB := Lib.hid (bch' HB.out hb); clear hb
  go_wp2_with fail
  refine ((own_samount_ok 3 0 1 0 0 false frontG [fdN 3 13107] gv1 (lv2) _ HG1.out HL2.out (by decide +kernel) (by decide +kernel) (fdN_len (.inr (.inl ⟨_, _, rfl⟩))) (by decide) (ENV.out.below HB.out)).mono ?_)
  rw [show amT 3 false frontG [fdN 3 13107] 1 0 0 = ([56, 48, 48, 48], true) by decide +kernel]
  dsimp only
  rintro e w3 ⟨rfl, hb⟩
  replace HG1 := Lib.hid (GnsAt.kept HG1.out hb)
  replace HL2 := Lib.hid (FdsAt.kept HL2.out hb)
  replace HB := Lib.hid (bch' HB.out hb); clear hb
  go_wp2_with fail
  clear HG1 HL2
  refine ((HFR.out _).mono ?_)
  rintro e w4 ⟨gv4, rfl, hg4, hb⟩
  have HG4 := Lib.hid hg4; clear hg4
  replace HB := Lib.hid (bch' HB.out hb); clear hb
  go_wp2_with fail
  refine ((HST.out 3 13107 _).mono ?_)
  rintro e w5 ⟨lv5, rfl, hl5, hb⟩
  replace HG4 := Lib.hid (GnsAt.kept HG4.out hb)
  have HL5 := Lib.hid hl5; clear hl5
  replace HB := Lib.hid (bch' HB.out hb); clear hb
  go_wp2_with fail
  refine ((own_samount_ok 3 0 1 1 0 false frontG [fdN 3 13107] gv4 (lv5) _ HG4.out HL5.out (by decide +kernel) (by decide +kernel) (fdN_len (.inr (.inl ⟨_, _, rfl⟩))) (by decide) (ENV.out.below HB.out)).mono ?_)
  rw [show amT 3 false frontG [fdN 3 13107] 1 1 0 = ([53, 48, 48], true) by decide +kernel]
  dsimp only
  rintro e w6 ⟨rfl, hb⟩
  replace HG4 := Lib.hid (GnsAt.kept HG4.out hb)
  replace HL5 := Lib.hid (FdsAt.kept HL5.out hb)
  replace HB := Lib.hid (bch' HB.out hb); clear hb
  go_wp2_with fail
  clear HG4 HL5
  refine ((HFR.out _).mono ?_)
  rintro e w7 ⟨gv7, rfl, hg7, hb⟩
  have HG7 := Lib.hid hg7; clear hg7
  replace HB := Lib.hid (bch' HB.out hb); clear hb
  go_wp2_with fail
  refine ((own_samount_ok 3 0 1 0 0 false frontG [] gv7 (.slice none 0 0) _ HG7.out (fds_nil _) (by decide +kernel) (by decide +kernel) (fdN_len (.inl rfl)) (by decide) (ENV.out.below HB.out)).mono ?_)
  rw [show amT 3 false frontG [] 1 0 0 = ([], false) by decide +kernel]
  dsimp only
  rintro e w8 ⟨rfl, hb⟩
  replace HG7 := Lib.hid (GnsAt.kept HG7.out hb)
  replace HB := Lib.hid (bch' HB.out hb); clear hb
  go_wp2_with fail
  clear HG7
  refine ((HDI.out 65535 _).mono ?_)
  rintro e w9 ⟨gv9, rfl, hg9, hb⟩
  have HG9 := Lib.hid hg9; clear hg9
  replace HB := Lib.hid (bch' HB.out hb); clear hb
  go_wp2_with fail
  refine ((own_sfactor 4 0 1 0 true [⟨1, 0, 65535⟩] [] gv9 (.slice none 0 0) _ HG9.out (fds_nil _) (by decide +kernel) (by decide +kernel) (fdN_len (.inl rfl)) (by decide) (ENV.out.below HB.out)).mono ?_)
  rw [show showR (sclQ ⟨4, 0, true, [⟨1, 0, 65535⟩]⟩ [] 1 0) = [49] by decide +kernel]
  rintro e w10 ⟨rfl, hb⟩
  replace HG9 := Lib.hid (GnsAt.kept HG9.out hb)
  replace HB := Lib.hid (bch' HB.out hb); clear hb
  go_wp2_with fail
  clear HG9
  refine ((HDI.out 65535 _).mono ?_)
  rintro e w11 ⟨gv11, rfl, hg11, hb⟩
  have HG11 := Lib.hid hg11; clear hg11
  replace HB := Lib.hid (bch' HB.out hb); clear hb
  go_wp2_with fail
  refine ((HST.out 4 13107 _).mono ?_)
  rintro e w12 ⟨lv12, rfl, hl12, hb⟩
  replace HG11 := Lib.hid (GnsAt.kept HG11.out hb)
  have HL12 := Lib.hid hl12; clear hl12
  replace HB := Lib.hid (bch' HB.out hb); clear hb
  go_wp2_with fail
  refine ((own_sfactor 4 0 1 0 true [⟨1, 0, 65535⟩] [fdN 4 13107] gv11 (lv12) _ HG11.out HL12.out (by decide +kernel) (by decide +kernel) (fdN_len (.inr (.inl ⟨_, _, rfl⟩))) (by decide) (ENV.out.below HB.out)).mono ?_)
  rw [show showR (sclQ ⟨4, 0, true, [⟨1, 0, 65535⟩]⟩ [fdN 4 13107] 1 0) = [49, 47, 53] by decide +kernel]
  rintro e w13 ⟨rfl, hb⟩
  replace HG11 := Lib.hid (GnsAt.kept HG11.out hb)
  replace HL12 := Lib.hid (FdsAt.kept HL12.out hb)
  replace HB := Lib.hid (bch' HB.out hb); clear hb
  go_wp2_with fail
  clear HG11 HL12
  refine ((HDI.out 13107 _).mono ?_)
  rintro e w14 ⟨gv14, rfl, hg14, hb⟩
  have HG14 := Lib.hid hg14; clear hg14
  replace HB := Lib.hid (bch' HB.out hb); clear hb
  go_wp2_with fail
  refine ((HST.out 4 0 _).mono ?_)
  rintro e w15 ⟨lv15, rfl, hl15, hb⟩
  replace HG14 := Lib.hid (GnsAt.kept HG14.out hb)
  have HL15 := Lib.hid hl15; clear hl15
  replace HB := Lib.hid (bch' HB.out hb); clear hb
  go_wp2_with fail
  refine ((own_sfactor 4 0 1 0 true [⟨1, 0, 13107⟩] [fdN 4 0] gv14 (lv15) _ HG14.out HL15.out (by decide +kernel) (by decide +kernel) (fdN_len (.inr (.inl ⟨_, _, rfl⟩))) (by decide) (ENV.out.below HB.out)).mono ?_)
  rw [show showR (sclQ ⟨4, 0, true, [⟨1, 0, 13107⟩]⟩ [fdN 4 0] 1 0) = [52, 47, 53] by decide +kernel]
  rintro e w16 ⟨rfl, hb⟩
  replace HG14 := Lib.hid (GnsAt.kept HG14.out hb)
  replace HL15 := Lib.hid (FdsAt.kept HL15.out hb)
  replace HB := Lib.hid (bch' HB.out hb); clear hb
  go_wp2_with fail
  clear HG14 HL15
  refine ((HFR.out _).mono ?_)
  rintro e w17 ⟨gv17, rfl, hg17, hb⟩
  have HG17 := Lib.hid hg17; clear hg17
  replace HB := Lib.hid (bch' HB.out hb); clear hb
  go_wp2_with fail
  refine ((own_smove_new 3 0 1000 65535 500 false frontG [] gv17 (.slice none 0 0) 0 _ HG17.out (fds_nil _) (by decide +kernel) (by decide +kernel) (fun i h => absurd h (Nat.not_lt_zero i)) (by decide) belongs_nil (by decide) (ENV.out.below HB.out)).mono ?_)
  rw [show insL [] 0 false (mvF 3 false [] 1000 65535 500 false) = [⟨3, [48], 65535, 1000, 500, 1000⟩] by decide +kernel]
  rintro e w18 ⟨pp18, cc18, rfl, ho18, hb⟩
  have HL18 := Lib.hid (OwnR.fds ho18); clear ho18
  replace HG17 := Lib.hid (GnsAt.kept HG17.out hb)
  replace HB := Lib.hid (bch' HB.out hb); clear hb
  go_wp2_with fail
  clear HG17
  refine ((HFR.out _).mono ?_)
  rintro e w19 ⟨gv19, rfl, hg19, hb⟩
  replace HL18 := Lib.hid (FdsAt.kept HL18.out hb)
  have HG19 := Lib.hid hg19; clear hg19
  replace HB := Lib.hid (bch' HB.out hb); clear hb
  go_wp2_with fail
  refine ((own_smove_on 3 0 1250 0 0 false frontG [⟨3, [48], 65535, 1000, 500, 1000⟩] gv19 (.slice pp18 1 cc18) 0 _ HG19.out HL18.out (by decide +kernel) (by decide +kernel) (len_one (by decide)) (by decide) (belongs_hit _ (by decide)) (by decide +kernel) (ENV.out.below HB.out)).mono ?_)
  rw [show insL [⟨3, [48], 65535, 1000, 500, 1000⟩] 0 true (mvF 3 false [⟨3, [48], 65535, 1000, 500, 1000⟩] 1250 0 0 true) = [⟨3, [54, 53, 53, 51, 53, 47, 50], 0, 1250, 0, 1000⟩] by decide +kernel]
  rintro e w20 ⟨pp20, cc20, rfl, ho20, hb⟩
  have HL20 := Lib.hid (OwnR.fds ho20); clear ho20
  replace HL18 := Lib.hid (FdsAt.kept HL18.out hb)
  replace HG19 := Lib.hid (GnsAt.kept HG19.out hb)
  replace HB := Lib.hid (bch' HB.out hb); clear hb
  go_wp2_with fail
  clear HG19
  clear HL18
  refine ((HFR.out _).mono ?_)
  rintro e w21 ⟨gv21, rfl, hg21, hb⟩
  replace HL20 := Lib.hid (FdsAt.kept HL20.out hb)
  have HG21 := Lib.hid hg21; clear hg21
  replace HB := Lib.hid (bch' HB.out hb); clear hb
  go_wp2_with fail
  refine ((own_slev_ok 3 0 1250 false frontG [⟨3, [54, 53, 53, 51, 53, 47, 50], 0, 1250, 0, 1000⟩] gv21 (.slice pp20 1 cc20) _ HG21.out HL20.out (by decide +kernel) (by decide +kernel) (len_one (by decide)) (ENV.out.below HB.out)).mono ?_)
  rw [show showR (lvlQ 3 false [⟨3, [54, 53, 53, 51, 53, 47, 50], 0, 1250, 0, 1000⟩] 1250) = [48] by decide +kernel]
  rintro e w22 ⟨rfl, hb⟩
  replace HL20 := Lib.hid (FdsAt.kept HL20.out hb)
  replace HG21 := Lib.hid (GnsAt.kept HG21.out hb)
  replace HB := Lib.hid (bch' HB.out hb); clear hb
  go_wp2_with fail
  clear HG21
  refine ((HFR.out _).mono ?_)
  rintro e w23 ⟨gv23, rfl, hg23, hb⟩
  replace HL20 := Lib.hid (FdsAt.kept HL20.out hb)
  have HG23 := Lib.hid hg23; clear hg23
  replace HB := Lib.hid (bch' HB.out hb); clear hb
  go_wp2_with fail
  refine ((own_smove_zero 3 0 2000 9 0 false frontG [⟨3, [54, 53, 53, 51, 53, 47, 50], 0, 1250, 0, 1000⟩] gv23 (.slice pp20 1 cc20) 0 _ HG23.out HL20.out (by decide +kernel) (by decide +kernel) (len_one (by decide)) (by decide) (belongs_hit _ (by decide)) (by decide +kernel) (ENV.out.below HB.out)).mono ?_)
  rw [show insL [⟨3, [54, 53, 53, 51, 53, 47, 50], 0, 1250, 0, 1000⟩] 0 true (mvF 3 false [⟨3, [54, 53, 53, 51, 53, 47, 50], 0, 1250, 0, 1000⟩] 2000 9 0 true) = [⟨3, [48], 9, 2000, 0, 2000⟩] by decide +kernel]
  rintro e w24 ⟨pp24, cc24, rfl, ho24, hb⟩
  have HL24 := Lib.hid (OwnR.fds ho24); clear ho24
  replace HL20 := Lib.hid (FdsAt.kept HL20.out hb)
  replace HG23 := Lib.hid (GnsAt.kept HG23.out hb)
  replace HB := Lib.hid (bch' HB.out hb); clear hb
  clear HG23
  obtain ⟨b2, o2, rfl, hb2, hC2⟩ := (by obtain ⟨p, c, e, -, h⟩ := HL20.out; injection e with e1 e2 e3; subst e1; exact h (by simp) : ∃ b o, pp20 = some ⟨b, o, none⟩ ∧ b < w24.heap.size ∧ FdsC w24 b o [⟨3, [54, 53, 53, 51, 53, 47, 50], 0, 1250, 0, 1000⟩])
  obtain ⟨b3, o3, rfl, hb3, hC3⟩ := (by obtain ⟨p, c, e, -, h⟩ := HL24.out; injection e with e1 e2 e3; subst e1; exact h (by simp) : ∃ b o, pp24 = some ⟨b, o, none⟩ ∧ b < w24.heap.size ∧ FdsC w24 b o [⟨3, [48], 9, 2000, 0, 2000⟩])
  obtain ⟨x0, x1, x2, x3, x4, x5⟩ := hC2 0 (by decide)
  obtain ⟨y0, y1, y2, y3, y4, y5⟩ := hC3 0 (by decide)
  simp only [Nat.zero_mul, Nat.add_zero] at x0 x1 x2 x3 x4 x5 y0 y1 y2 y3 y4 y5
  clear hC2 hC3
  change _ = some (Value.string ⟨#[54, 53, 53, 51, 53, 47, 50]⟩) at x1
  change _ = some (Value.int .i64 1000) at x5
  change _ = some (Value.int .i64 2000) at y5
  go_wp2_with fail
  go_ret
  exact ⟨rfl, HB.out⟩
end Go.Proofs.YtkjelfmgnkkijaaGreatDoor
