/-
  Numbers: quotient, unequal signs.
-/
import Derived.Test.YtnjaikomoljmjaaGreatDoorNum6
import Derived.Deep.RegionHeld3
set_option linter.unusedVariables false
set_option linter.unusedSimpArgs false
namespace Lum
open Go Go.RowKit Go.Shelf
theorem keepS {w1 W W' : World} {a : Addr} {v : Value} (hS : Below w1.heap.size w1 W ∧ W.cell? a = some v) (hb : Below W.heap.size W W') (ha : a.block < w1.heap.size) : Below w1.heap.size w1 W' ∧ W'.cell? a = some v :=
  ⟨bch' hS.1 hb, (hb.cell (Nat.lt_of_lt_of_le ha hS.1.size)).trans hS.2⟩
theorem keepS_alloc {w1 W : World} {a : Addr} {v : Value} (hS : Below w1.heap.size w1 W ∧ W.cell? a = some v) (o : Obj) (ha : a.block < w1.heap.size) : Below w1.heap.size w1 (W.alloc o) ∧ (W.alloc o).cell? a = some v :=
  keepS hS ((Below.refl _ W).alloc (Nat.le_refl _) o) ha
theorem keepS_allocd {w1 W : World} {a : Addr} {v : Value} (hS : Below w1.heap.size w1 W.drew ∧ W.drew.cell? a = some v) (o : Obj) (ha : a.block < w1.heap.size) : Below w1.heap.size w1 (W.alloc o).drew ∧ (W.alloc o).drew.cell? a = some v :=
  keepS hS (((Below.refl _ W.drew).alloc (Nat.le_refl _) o)) ha
theorem nats_u1 (k : IntKind) (e : TypeId) (W : World) : NatsAt k (W.alloc (.cells #[.int k 1] e)) (.slice (some ⟨W.heap.size, 0, none⟩) 1 1) [1] := nats_one k e W 1
theorem nats_u1d (k : IntKind) (e : TypeId) (W : World) : NatsAt k (W.alloc (.cells #[.int k 1] e)).drew (.slice (some ⟨W.heap.size, 0, none⟩) 1 1) [1] := nats_one k e W 1
end Lum
namespace Go.Proofs.YtnjaikomoljmjaaGreatDoor
open Go.RowKit Go.Shelf Lum
attribute [local go_sem] bs_get bs_extract_end bs_extract_from bs_extract bs_append

set_option maxHeartbeats 4000000 in
theorem num_quotient_zero (b1 b2 : Bool) (p1 p2 : Option Addr) (n1 c1 n2 c2 : Nat) (x y : Int) (w : World) (h1 : NumAt w b1 p1 n1 c1 x) (h2 : NumAt w b2 p2 n2 c2 y) (hn1 : n1 ≤ 20000) (hn2 : n2 ≤ 20000) (hy : y ≠ 0) (hne : b1 ≠ b2) (h0 : x.natAbs % y.natAbs = 0) :
    Calls Tryz.prog 196 #[.agg #[.bool b1, .slice p1 n1 c1], .agg #[.bool b2, .slice p2 n2 c2]] w fun e w' => ∃ bq pq nq cq br pr nr cr, e = .returned (.tuple #[.agg #[.bool bq, .slice pq nq cq], .agg #[.bool br, .slice pr nr cr]]) ∧ NumAt w' bq pq nq cq (x.fdiv y) ∧ NumAt w' br pr nr cr (x.fmod y) ∧ Below w.heap.size w w' := by
  have hs2 := h2.1
  have hd : decide (x < 0) ≠ decide (y < 0) := by rw [← h1.1, ← h2.1]; exact hne
  have hq := (quot_all x y hy).2.1 hd h0
  have hD := fun W (hb : Below w.heap.size w W) => mag_divided p1 p2 n1 c1 n2 c2 x.natAbs y.natAbs W (h1.2.below hb) (h2.2.below hb) (by omega) (by omega) (by omega)
  have HQ := Lib.hid hq; clear hq
  have H0 := Lib.hid h0; clear h0
  have HD := Lib.hid hD; clear hD hd
  have HS2 := Lib.hid hs2; clear hs2
  have hn1l := h1.2.n
  have hn2l := h2.2.n
  have HN1 := Lib.hid hn1l; clear hn1l
  have HN2 := Lib.hid hn2l; clear hn2l h1 h2
  have hB := ((((Below.refl w.heap.size w).alloc (Nat.le_refl _) (.cells #[.bool b1, .slice p1 n1 c1] 142)).alloc (by simp) (.cells #[.bool b2, .slice p2 n2 c2] 142)).alloc (by simp; omega) (.cells #[.bool false, .slice none 0 0] 142)).alloc (by simp; omega) (.cells #[.bool false, .slice none 0 0] 142)
  have x1 := (((NBox.new w 142 b1 p1 n1 c1).alloc (.cells #[.bool b2, .slice p2 n2 c2] 142)).alloc (.cells #[.bool false, .slice none 0 0] 142)).alloc (.cells #[.bool false, .slice none 0 0] 142)
  have x2 := ((NBox.new (w.alloc (.cells #[.bool b1, .slice p1 n1 c1] 142)) 142 b2 p2 n2 c2).alloc (.cells #[.bool false, .slice none 0 0] 142)).alloc (.cells #[.bool false, .slice none 0 0] 142)
  have x3 := (NBox.new ((w.alloc (.cells #[.bool b1, .slice p1 n1 c1] 142)).alloc (.cells #[.bool b2, .slice p2 n2 c2] 142)) 142 false none 0 0).alloc (.cells #[.bool false, .slice none 0 0] 142)
  have x4 := NBox.new (((w.alloc (.cells #[.bool b1, .slice p1 n1 c1] 142)).alloc (.cells #[.bool b2, .slice p2 n2 c2] 142)).alloc (.cells #[.bool false, .slice none 0 0] 142)) 142 false none 0 0
  simp only [World.size_alloc] at x2 x3 x4
  have beq : (b1 != b2) = true := by simpa using hne
  go_enter Tryz.func196, Tryz.ntmps196
  go_wp2_with fail
  generalize (((w.alloc (.cells #[.bool b1, .slice p1 n1 c1] 142)).alloc (.cells #[.bool b2, .slice p2 n2 c2] 142)).alloc (.cells #[.bool false, .slice none 0 0] 142)).alloc (.cells #[.bool false, .slice none 0 0] 142) = W0 at *
  refine (HD.out _ hB).mono ?_
  rintro e w1 ⟨pq, nq, cq, pr, nr, cr, rfl, hMq, hMr, hb1⟩
  have HMQ := Lib.hid hMq; clear hMq
  have HMR := Lib.hid hMr; clear hMr
  have hbz := bch' hB hb1
  have y1 := x1.keep hb1
  have y2 := x2.keep hb1
  have y3 := x3.keep hb1
  have y4 := x4.keep hb1
  have HBZ := Lib.hid hbz; clear hbz hB hb1 x1 x2 x3 x4
  have HRES := fun bq br eq er => quot_post (q := x.fdiv y) (r := x.fmod y) HBZ.out y3 y4 (by simp) (by omega) (by omega) (by rw [HQ.out.1]; exact HMQ.out) (by rw [HQ.out.2.2.1]; exact HMR.out) bq br eq er
  have HRS := Lib.hid HRES; clear HRES
  have hnr : nr = 0 ↔ x.natAbs % y.natAbs = 0 := by rw [HMR.out.n, magL_nil]
  have HNR := Lib.hid hnr; clear hnr
  obtain ⟨k1, k2, f1, f2, l1⟩ := y1
  obtain ⟨k3, k4, f3, f4, l3⟩ := y2
  obtain ⟨k5, k6, f5, f6, l5⟩ := y3
  obtain ⟨k7, k8, f7, f8, l7⟩ := y4
  obtain rfl : nr = 0 := HNR.out.2 H0.out
  have hnq : nq = 0 ↔ x.natAbs / y.natAbs = 0 := by rw [HMQ.out.n, magL_nil]
  have HNQ := Lib.hid hnq; clear hnq
  have hr0 : (x.fdiv y < 0 ↔ 0 < nq) := by have h1 := HQ.out.2.1; have h2 := HNQ.out; omega
  have HR0 := Lib.hid hr0; clear hr0
  cases b1 <;> cases b2 <;> first | exact absurd rfl hne | skip
  all_goals
    go_wp2_with fail
    refine bodyPost_ret_by (v := .tuple #[.agg #[.bool (decide (0 < nq)), .slice pq nq cq], .agg #[.bool false, .slice pr 0 cr]]) (by simp [results, Tryz.f196, go_sem, k5, k6, k7, k8]) rfl ?_
    obtain ⟨a1, a2, a3⟩ := HRS.out (decide (0 < nq)) false (by rw [HR0.out, decide_eq_true_eq]) (by simpa using HQ.out.2.2.2)
    exact ⟨_, _, _, _, _, _, _, _, rfl, a1, a2, a3⟩
set_option maxHeartbeats 4000000 in
theorem num_quotient_rest (b1 b2 : Bool) (p1 p2 : Option Addr) (n1 c1 n2 c2 : Nat) (x y : Int) (w : World) (h1 : NumAt w b1 p1 n1 c1 x) (h2 : NumAt w b2 p2 n2 c2 y) (hn1 : n1 ≤ 20000) (hn2 : n2 ≤ 20000) (hy : y ≠ 0) (hne : b1 ≠ b2) (h0 : x.natAbs % y.natAbs ≠ 0) :
    Calls Tryz.prog 196 #[.agg #[.bool b1, .slice p1 n1 c1], .agg #[.bool b2, .slice p2 n2 c2]] w fun e w' => ∃ bq pq nq cq br pr nr cr, e = .returned (.tuple #[.agg #[.bool bq, .slice pq nq cq], .agg #[.bool br, .slice pr nr cr]]) ∧ NumAt w' bq pq nq cq (x.fdiv y) ∧ NumAt w' br pr nr cr (x.fmod y) ∧ Below w.heap.size w w' := by
  have hs2 := h2.1
  have hd : decide (x < 0) ≠ decide (y < 0) := by rw [← h1.1, ← h2.1]; exact hne
  have hq := (quot_all x y hy).2.2 hd h0
  have hD := fun W (hb : Below w.heap.size w W) => mag_divided p1 p2 n1 c1 n2 c2 x.natAbs y.natAbs W (h1.2.below hb) (h2.2.below hb) (by omega) (by omega) (by omega)
  have HQ := Lib.hid hq; clear hq
  have H0 := Lib.hid h0; clear h0
  have HD := Lib.hid hD; clear hD hd
  have hL := fun p' n' c' r' W (hb : Below w.heap.size w W) (hm : MagAt W p' n' c' r') (hn' : n' ≤ 20000) (hle : r' ≤ y.natAbs) => mag_less p2 p' n2 c2 n' c' y.natAbs r' W (h2.2.below hb) hm (by omega) (by omega) hle
  have HL := Lib.hid hL; clear hL
  have HS2 := Lib.hid hs2; clear hs2
  have hn1l := h1.2.n
  have hn2l := h2.2.n
  have HN1 := Lib.hid hn1l; clear hn1l
  have HN2 := Lib.hid hn2l; clear hn2l h1 h2
  have hB := ((((Below.refl w.heap.size w).alloc (Nat.le_refl _) (.cells #[.bool b1, .slice p1 n1 c1] 142)).alloc (by simp) (.cells #[.bool b2, .slice p2 n2 c2] 142)).alloc (by simp; omega) (.cells #[.bool false, .slice none 0 0] 142)).alloc (by simp; omega) (.cells #[.bool false, .slice none 0 0] 142)
  have x1 := (((NBox.new w 142 b1 p1 n1 c1).alloc (.cells #[.bool b2, .slice p2 n2 c2] 142)).alloc (.cells #[.bool false, .slice none 0 0] 142)).alloc (.cells #[.bool false, .slice none 0 0] 142)
  have x2 := ((NBox.new (w.alloc (.cells #[.bool b1, .slice p1 n1 c1] 142)) 142 b2 p2 n2 c2).alloc (.cells #[.bool false, .slice none 0 0] 142)).alloc (.cells #[.bool false, .slice none 0 0] 142)
  have x3 := (NBox.new ((w.alloc (.cells #[.bool b1, .slice p1 n1 c1] 142)).alloc (.cells #[.bool b2, .slice p2 n2 c2] 142)) 142 false none 0 0).alloc (.cells #[.bool false, .slice none 0 0] 142)
  have x4 := NBox.new (((w.alloc (.cells #[.bool b1, .slice p1 n1 c1] 142)).alloc (.cells #[.bool b2, .slice p2 n2 c2] 142)).alloc (.cells #[.bool false, .slice none 0 0] 142)) 142 false none 0 0
  simp only [World.size_alloc] at x2 x3 x4
  have beq : (b1 != b2) = true := by simpa using hne
  go_enter Tryz.func196, Tryz.ntmps196
  go_wp2_with fail
  generalize (((w.alloc (.cells #[.bool b1, .slice p1 n1 c1] 142)).alloc (.cells #[.bool b2, .slice p2 n2 c2] 142)).alloc (.cells #[.bool false, .slice none 0 0] 142)).alloc (.cells #[.bool false, .slice none 0 0] 142) = W0 at *
  refine (HD.out _ hB).mono ?_
  rintro e w1 ⟨pq, nq, cq, pr, nr, cr, rfl, hMq, hMr, hb1⟩
  have HMQ := Lib.hid hMq; clear hMq
  have HMR := Lib.hid hMr; clear hMr
  have hbz := bch' hB hb1
  have y1 := x1.keep hb1
  have y2 := x2.keep hb1
  have y3 := x3.keep hb1
  have y4 := x4.keep hb1
  have HBZ := Lib.hid hbz; clear hbz hB hb1 x1 x2 x3 x4
  have hnr : nr = 0 ↔ x.natAbs % y.natAbs = 0 := by rw [HMR.out.n, magL_nil]
  have HNR := Lib.hid hnr; clear hnr
  have hrl : nr ≤ 20000 := by
    have h1 := magL_mono (show x.natAbs % y.natAbs ≤ y.natAbs from Nat.le_of_lt (Nat.mod_lt _ (by omega)))
    have h2 := HN2.out
    rw [HMR.out.n]; omega
  have hql : nq ≤ 100000 := by
    have h1 := magL_mono (Nat.div_le_self x.natAbs y.natAbs)
    have h2 := HN1.out
    rw [HMQ.out.n]; omega
  have hle : x.natAbs % y.natAbs ≤ y.natAbs := Nat.le_of_lt (Nat.mod_lt _ (by omega))
  have hP := fun W (b : Nat) (hb : Below w1.heap.size w1 W) (hm : NatsAt .u64 W (.slice (some ⟨b, 0, none⟩) 1 1) [1]) => mag_plus pq (some ⟨b, 0, none⟩) nq cq 1 1 (x.natAbs / y.natAbs) 1 W (HMQ.out.below hb) ⟨by rw [magL_one 1 (by omega) (by decide)]; exact hm, by rw [magL_one 1 (by omega) (by decide)]; rfl⟩ hql (by omega)
  have hLL := fun W (hb : Below w1.heap.size w1 W) => HL.out pr nr cr _ W (bch' HBZ.out hb) (HMR.out.below hb) hrl hle
  have HP := Lib.hid hP; clear hP
  have HLL := Lib.hid hLL; clear hLL HL hle
  have hpos : 0 < nr := by have h1 := HNR.out; have h2 := H0.out; omega
  have hposi : (0 : Int) < (nr : Int) := by omega
  have hposd : decide (0 < nr) = true := by simpa using hpos
  have Y2 := Lib.hid y2
  have Y1 := Lib.hid y1
  have Y3 := Lib.hid y3
  have Y4 := Lib.hid y4
  have hlw : w.heap.size + 1 < w1.heap.size := y2.lt
  obtain ⟨k1, k2, f1, f2, l1⟩ := y1
  obtain ⟨k3, k4, f3, f4, l3⟩ := y2
  clear y3 y4
  cases b1 <;> cases b2 <;> first | exact absurd rfl hne | skip
  all_goals
    go_wp2_with fail
    have hS0 : Below w1.heap.size w1 w1.drew ∧ w1.drew.cell? ⟨w.heap.size + 1, 1, none⟩ = some (.slice p2 n2 c2) := ⟨(Below.refl _ _).drew, k4⟩
    have HS0 := Lib.hid hS0; clear hS0
    go_region_held3 (fun w' => Below w1.heap.size w1 w' ∧ w'.cell? ⟨w.heap.size + 1, 1, none⟩ = some (.slice p2 n2 c2)) (first | exact HS0.out | exact keepS (by assumption) (by assumption) (by simp; omega) | exact keepS_alloc (by assumption) _ (by simp; omega) | exact keepS_allocd HS0.out _ (by simp; omega)) (first | (go_at_call 177; refine (HLL.out _ (And.left (by assumption))).mono ?_; rintro e w5 ⟨p5, n5, c5, rfl, hM5, hb5⟩; have HM5 := Lib.hid hM5; clear hM5) | (go_at_call 175; refine (HP.out _ _ (And.left (by assumption)) (by first | exact nats_u1d _ _ _ | exact nats_u1 _ _ _ | exact NatsAt.below (nats_u1d .u64 182 w1) (by assumption))).mono ?_; rintro e w4 ⟨p4, n4, c4, rfl, hM4, hb4⟩; have HM4 := Lib.hid hM4; clear hM4))
  all_goals
    first
      | have hpk : MagAt w5 p4 n4 c4 _ ∧ MagAt w5 p5 n5 c5 _ ∧ Below w1.heap.size w1 w5 := ⟨HM4.out.below hb5, HM5.out, And.left (by assumption)⟩
      | have hpk : MagAt w4 p4 n4 c4 _ ∧ MagAt w4 p5 n5 c5 _ ∧ Below w1.heap.size w1 w4 := ⟨HM4.out, HM5.out.below hb4, And.left (by assumption)⟩
      | have hpk : MagAt w4 p4 n4 c4 _ ∧ MagAt w4 p5 n5 c5 _ ∧ Below w1.heap.size w1 w4 := ⟨HM4.out, (HM5.out.below ((Below.refl _ w5).alloc (Nat.le_refl _) _)).below hb4, And.left (by assumption)⟩
    obtain ⟨F4, F5, FB⟩ := hpk
    have y3 := Y3.out.keep FB
    have y4 := Y4.out.keep FB
    have z2 := Y2.out.keep FB
    have z1 := Y1.out.keep FB
    clear k1 k2 f1 f2 l1 k3 k4 f3 f4 l3 hb4 hb5
    have HRES := fun bq br eq er => quot_post (q := x.fdiv y) (r := x.fmod y) (bch' HBZ.out FB) y3 y4 (by simp) (by omega) (by omega) (by rw [HQ.out.1]; exact F4) (by rw [HQ.out.2.2.1]; exact F5) bq br eq er
    have HRS := Lib.hid HRES; clear HRES
    have h4n : 0 < n4 := by rw [F4.n]; exact magL_ne _ (Nat.succ_ne_zero _)
    have h4d : decide (0 < n4) = true := by simpa using h4n
    have h4p : 0 < n5 := by rw [F5.n]; exact magL_ne _ (Nat.sub_ne_zero_of_lt (Nat.mod_lt x.natAbs (by omega)))
    have h5d : decide (0 < n5) = true := by simpa using h4p
    obtain ⟨k1, k2, f1, f2, l1⟩ := z1
    obtain ⟨k3, k4, f3, f4, l3⟩ := z2
    obtain ⟨k5, k6, f5, f6, l5⟩ := y3
    obtain ⟨k7, k8, f7, f8, l7⟩ := y4
    clear F4 F5 FB
    go_wp2_with fail
    first
      | (refine bodyPost_ret_by (v := .tuple #[.agg #[.bool true, .slice p4 n4 c4], .agg #[.bool true, .slice p5 n5 c5]]) (by simp [results, Tryz.f196, go_sem, k5, k6, k7, k8]) rfl ?_
         have hh := HS2.out
         obtain ⟨a1, a2, a3⟩ := HRS.out true true (by simpa using HQ.out.2.1) (by rw [HQ.out.2.2.2]; simpa using hh.symm)
         exact ⟨_, _, _, _, _, _, _, _, rfl, a1, a2, a3⟩)
      | (refine bodyPost_ret_by (v := .tuple #[.agg #[.bool true, .slice p4 n4 c4], .agg #[.bool false, .slice p5 n5 c5]]) (by simp [results, Tryz.f196, go_sem, k5, k6, k7, k8]) rfl ?_
         have hh := HS2.out
         obtain ⟨a1, a2, a3⟩ := HRS.out true false (by simpa using HQ.out.2.1) (by rw [HQ.out.2.2.2]; simpa using hh.symm)
         exact ⟨_, _, _, _, _, _, _, _, rfl, a1, a2, a3⟩)
theorem num_quotient (b1 b2 : Bool) (p1 p2 : Option Addr) (n1 c1 n2 c2 : Nat) (x y : Int) (w : World) (h1 : NumAt w b1 p1 n1 c1 x) (h2 : NumAt w b2 p2 n2 c2 y) (hn1 : n1 ≤ 20000) (hn2 : n2 ≤ 20000) (hy : y ≠ 0) :
    Calls Tryz.prog 196 #[.agg #[.bool b1, .slice p1 n1 c1], .agg #[.bool b2, .slice p2 n2 c2]] w fun e w' => ∃ bq pq nq cq br pr nr cr, e = .returned (.tuple #[.agg #[.bool bq, .slice pq nq cq], .agg #[.bool br, .slice pr nr cr]]) ∧ NumAt w' bq pq nq cq (x.fdiv y) ∧ NumAt w' br pr nr cr (x.fmod y) ∧ Below w.heap.size w w' := by
  by_cases h : b1 = b2
  · subst h
    exact num_quotient_same b1 p1 p2 n1 c1 n2 c2 x y w h1 h2 hn1 hn2 hy
  · by_cases h0 : x.natAbs % y.natAbs = 0
    · exact num_quotient_zero b1 b2 p1 p2 n1 c1 n2 c2 x y w h1 h2 hn1 hn2 hy h h0
    · exact num_quotient_rest b1 b2 p1 p2 n1 c1 n2 c2 x y w h1 h2 hn1 hn2 hy h h0
end Go.Proofs.YtnjaikomoljmjaaGreatDoor
