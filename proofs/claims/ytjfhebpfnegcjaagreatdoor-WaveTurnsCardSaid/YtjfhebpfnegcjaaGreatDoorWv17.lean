/-
  The laws WaveReads, WaveChanges: the walks.
-/
import Derived.Test.YtjfhebpfnegcjaaGreatDoorWv12
import Derived.Test.YtjfhebpfnegcjaaGreatDoorWv11
import Derived.Test.YtjfhebpfnegcjaaGreatDoorWe
import Derived.Test.YtjfhebpfnegcjaaGreatDoorWf
set_option linter.unusedVariables false
set_option linter.unusedSimpArgs false
namespace Lum
open Go Go.RowKit Go.Shelf
open Go.Lib (decDigits itoa)
theorem tidF_len : ∀ (n i : Nat) (l : List (Int × Int)), (tidF n i l).length ≤ l.length
  | 0, _, _ => Nat.le_refl _
  | n + 1, i, l => by
    rw [tidF]
    split
    · split
      · refine Nat.le_trans (tidF_len n i _) ?_
        rw [List.length_eraseIdx]; split <;> omega
      · exact tidF_len n (i + 1) l
    · exact Nat.le_refl _
end Lum
namespace Go.Proofs.YtjfhebpfnegcjaaGreatDoor
open Go.RowKit Go.Shelf Lum
open Go.Lib (decDigits itoa)
attribute [local go_sem] bs_get bs_extract_end bs_extract_from bs_extract bs_append

set_option maxRecDepth 100000 in
set_option maxHeartbeats 8000000 in
theorem law_reads (l : List (Int × Int)) (v : Value) (x : Txt) (w : World) (hv : PtsAt w v l) (hx : x.length ≤ 9223372036854775807) (env : Env w) :
    Calls Tryz.prog 4 #[v, .string ⟨(x).toArray⟩] w fun e w' => e = .returned (.bool (true)) ∧ Below w.heap.size w w' := by
  have ENV := Lib.hid env; clear env
  have HB := Lib.hid (Below.refl w.heap.size w)
  have HV := Lib.hid hv
  have haw := fun W (e : Env W) => law27_awake W e
  have HAW := Lib.hid haw; clear haw
  obtain ⟨p, c, rfl, -⟩ := hv
  by_cases h1 : 40 < l.length
  · have g1 : (40 : Int) < (l.length : Int) := by omega
    clear h1
    go_enter Tryz.func4, Tryz.ntmps4
    go_wp2_with (first | (with_reducible refine ((HAW.out _ (ENV.out.below HB.out)).mono ?_); rintro e w' ⟨rfl, hb⟩; replace HB := Lib.hid (bch' HB.out hb); clear hb))
    go_ret
    exact ⟨rfl, HB.out⟩
  have g1 : ¬ (40 : Int) < (l.length : Int) := by omega
  by_cases h2 : 300 < x.length
  · have g2 : (300 : Int) < (x.length : Int) := by omega
    clear h1 h2
    go_enter Tryz.func4, Tryz.ntmps4
    go_wp2_with (first | (with_reducible refine ((HAW.out _ (ENV.out.below HB.out)).mono ?_); rintro e w' ⟨rfl, hb⟩; replace HB := Lib.hid (bch' HB.out hb); clear hb))
    go_ret
    exact ⟨rfl, HB.out⟩
  have g2 : ¬ (300 : Int) < (x.length : Int) := by omega
  have hl : l.length ≤ 1000000000 := by omega
  have hx2 : x.length ≤ 399 := by omega
  have a1 := fun W (e : Env W) (h : PtsAt W (.slice p l.length c) l) => own_at l _ x W h hl hx2 e
  have a2 := fun W (h : PtsAt W (.slice p l.length c) l) => r27_at l _ x W h hl hx2
  have a3 := fun W (h : PtsAt W (.slice p l.length c) l) => own_extremes l _ W h hl
  have a4 := fun W (h : PtsAt W (.slice p l.length c) l) => r27_extremes l _ W h hl
  have a5 := fun W (e : Env W) (h : PtsAt W (.slice p l.length c) l) => own_mean l _ W h hl e
  have a6 := fun W (h : PtsAt W (.slice p l.length c) l) => r27_mean l _ W h hl
  have a7 := fun W (h : PtsAt W (.slice p l.length c) l) => own_wcheck l _ W h hl
  have a8 := fun W (h : PtsAt W (.slice p l.length c) l) => r27_check l _ W h hl
  clear h1 h2 hl hx2
  generalize atT l x = tA at *
  generalize exT l = tE at *
  generalize meT l = tM at *
  generalize wvE l = m at *
  obtain ⟨tA1, tA2⟩ := tA
  obtain ⟨tE1, tE2, tE3⟩ := tE
  obtain ⟨tM1, tM2⟩ := tM
  dsimp only at a1 a2 a3 a4 a5 a6
  have A1 := Lib.hid a1; clear a1
  have A2 := Lib.hid a2; clear a2
  have A3 := Lib.hid a3; clear a3
  have A4 := Lib.hid a4; clear a4
  have A5 := Lib.hid a5; clear a5
  have A6 := Lib.hid a6; clear a6
  have A7 := Lib.hid a7; clear a7
  have A8 := Lib.hid a8; clear a8
  go_enter Tryz.func4, Tryz.ntmps4
  go_wp2_with (first | (with_reducible refine ((HAW.out _ (ENV.out.below HB.out)).mono ?_); rintro e w' ⟨rfl, hb⟩; replace HV := Lib.hid (PtsAt.below HV.out hb); replace HB := Lib.hid (bch' HB.out hb); clear hb) | (with_reducible refine ((A1.out _ (ENV.out.below HB.out) HV.out).mono ?_); rintro e w' ⟨rfl, hb⟩; replace HV := Lib.hid (PtsAt.below HV.out hb); replace HB := Lib.hid (bch' HB.out hb); clear hb) | (with_reducible refine ((A2.out _ HV.out).mono ?_); rintro e w' ⟨rfl, hb⟩; replace HV := Lib.hid (PtsAt.below HV.out hb); replace HB := Lib.hid (bch' HB.out hb); clear hb) | (with_reducible refine ((A3.out _ HV.out).mono ?_); rintro e w' ⟨rfl, hb⟩; replace HV := Lib.hid (PtsAt.below HV.out hb); replace HB := Lib.hid (bch' HB.out hb); clear hb) | (with_reducible refine ((A4.out _ HV.out).mono ?_); rintro e w' ⟨rfl, hb⟩; replace HV := Lib.hid (PtsAt.below HV.out hb); replace HB := Lib.hid (bch' HB.out hb); clear hb) | (with_reducible refine ((A5.out _ (ENV.out.below HB.out) HV.out).mono ?_); rintro e w' ⟨rfl, hb⟩; replace HV := Lib.hid (PtsAt.below HV.out hb); replace HB := Lib.hid (bch' HB.out hb); clear hb) | (with_reducible refine ((A6.out _ HV.out).mono ?_); rintro e w' ⟨rfl, hb⟩; replace HV := Lib.hid (PtsAt.below HV.out hb); replace HB := Lib.hid (bch' HB.out hb); clear hb) | (with_reducible refine ((A7.out _ HV.out).mono ?_); rintro e w' ⟨rfl, hb⟩; replace HV := Lib.hid (PtsAt.below HV.out hb); replace HB := Lib.hid (bch' HB.out hb); clear hb) | (with_reducible refine ((A8.out _ HV.out).mono ?_); rintro e w' ⟨rfl, hb⟩; replace HV := Lib.hid (PtsAt.below HV.out hb); replace HB := Lib.hid (bch' HB.out hb); clear hb))
  go_ret
  exact ⟨rfl, HB.out⟩

set_option maxRecDepth 100000 in
set_option maxHeartbeats 8000000 in
theorem law_changes (l : List (Int × Int)) (v : Value) (w : World) (hv : PtsAt w v l) (hcap : ∃ p n c, v = .slice p n c ∧ n = l.length ∧ n ≤ c) (env : Env w) :
    Calls Tryz.prog 7 #[v] w fun e w' => e = .returned (.bool (true)) ∧ Below w.heap.size w w' := by
  have ENV := Lib.hid env; clear env
  have HB := Lib.hid (Below.refl w.heap.size w)
  have HV := Lib.hid hv
  have haw := fun W (e : Env W) => law27_awake W e
  have HAW := Lib.hid haw; clear haw
  obtain ⟨p, c, rfl, -⟩ := hv
  by_cases h1 : 40 < l.length
  · have g1 : (40 : Int) < (l.length : Int) := by omega
    clear h1
    go_enter Tryz.func7, Tryz.ntmps7
    go_wp2_with (first | (with_reducible refine ((HAW.out _ (ENV.out.below HB.out)).mono ?_); rintro e w' ⟨rfl, hb⟩; replace HB := Lib.hid (bch' HB.out hb); clear hb))
    go_ret
    exact ⟨rfl, HB.out⟩
  have g1 : ¬ (40 : Int) < (l.length : Int) := by omega
  have hl : l.length ≤ 1000000000 := by omega
  have hcap2 : ∃ q n d, (Value.slice p l.length c) = .slice q n d ∧ n = l.length ∧ n ≤ d := hcap
  have a1 := fun W (h : PtsAt W (.slice p l.length c) l) => own_flip l _ W h hl
  have a2 := fun W (h : PtsAt W (.slice p l.length c) l) => r27_flip l _ W h hl
  have a3 := fun W (h : PtsAt W (.slice p l.length c) l) => own_mirror l _ W h hl
  have a4 := fun W (h : PtsAt W (.slice p l.length c) l) => r27_mirror l _ W h hl
  have a5 := fun W (h : PtsAt W (.slice p l.length c) l) => own_tidy l _ W h hl
  have a6 := fun W (h : PtsAt W (.slice p l.length c) l) => r27_tidy l _ W h hcap2 hl
  have et : onlyR l (tidR l.length l) = onlyR l (tidF l.length 1 l) := by
    by_cases hz : wvE l = 0
    · have wv := wvE_zero hz
      have hlo := wv.lo
      rw [onlyR_ok hz, onlyR_ok hz]
      exact (tid_same l.length l 1 l.length wv.rise (Nat.le_refl _) (by omega) (fun j h1 h2 => by omega) (by omega) (by omega)).symm
    · rw [onlyR_no hz, onlyR_no hz]
  rw [et] at a6
  have n1 : (onlyR l (flipL l)).length ≤ 1000000000 := by unfold onlyR; split <;> simp [flipL_length]; exact hl
  have n2 : (onlyR l (mirL l)).length ≤ 1000000000 := by unfold onlyR; split <;> simp [mirL_length]; exact hl
  have n3 : (onlyR l (tidF l.length 1 l)).length ≤ 1000000000 := by unfold onlyR; split; exact Nat.le_trans (tidF_len _ _ _) hl; simp
  clear et hcap hcap2 h1 hl
  generalize onlyR l (flipL l) = F at *
  generalize onlyR l (mirL l) = M at *
  generalize onlyR l (tidF l.length 1 l) = T at *
  have s1 := fun W va vb (ha : PtsAt W va F) (hb : PtsAt W vb F) => r27_same F F va vb W ha hb n1 n1
  have s2 := fun W va vb (ha : PtsAt W va M) (hb : PtsAt W vb M) => r27_same M M va vb W ha hb n2 n2
  have s3 := fun W va vb (ha : PtsAt W va T) (hb : PtsAt W vb T) => r27_same T T va vb W ha hb n3 n3
  rw [decide_eq_true rfl] at s1 s2 s3
  clear n1 n2 n3
  generalize wvE l = m at *
  have A1 := Lib.hid a1; clear a1
  have A2 := Lib.hid a2; clear a2
  have A3 := Lib.hid a3; clear a3
  have A4 := Lib.hid a4; clear a4
  have A5 := Lib.hid a5; clear a5
  have A6 := Lib.hid a6; clear a6
  have S1 := Lib.hid s1; clear s1
  have S2 := Lib.hid s2; clear s2
  have S3 := Lib.hid s3; clear s3
  go_enter Tryz.func7, Tryz.ntmps7
  go_wp2_with (first | (with_reducible refine ((A1.out _ HV.out).mono ?_); rintro e w' ⟨v0, rfl, hp, hb⟩; replace HV := Lib.hid (PtsAt.below HV.out hb); have P0 := Lib.hid hp; clear hp; replace HB := Lib.hid (bch' HB.out hb); clear hb) | (with_reducible refine ((A2.out _ HV.out).mono ?_); rintro e w' ⟨v1, rfl, hp, hb⟩; replace HV := Lib.hid (PtsAt.below HV.out hb); replace P0 := Lib.hid (PtsAt.below P0.out hb); have P1 := Lib.hid hp; clear hp; replace HB := Lib.hid (bch' HB.out hb); clear hb) | (with_reducible refine ((A3.out _ HV.out).mono ?_); rintro e w' ⟨v2, rfl, hp, hb⟩; replace HV := Lib.hid (PtsAt.below HV.out hb); replace P0 := Lib.hid (PtsAt.below P0.out hb); replace P1 := Lib.hid (PtsAt.below P1.out hb); have P2 := Lib.hid hp; clear hp; replace HB := Lib.hid (bch' HB.out hb); clear hb) | (with_reducible refine ((A4.out _ HV.out).mono ?_); rintro e w' ⟨v3, rfl, hp, hb⟩; replace HV := Lib.hid (PtsAt.below HV.out hb); replace P0 := Lib.hid (PtsAt.below P0.out hb); replace P1 := Lib.hid (PtsAt.below P1.out hb); replace P2 := Lib.hid (PtsAt.below P2.out hb); have P3 := Lib.hid hp; clear hp; replace HB := Lib.hid (bch' HB.out hb); clear hb) | (with_reducible refine ((A5.out _ HV.out).mono ?_); rintro e w' ⟨v4, rfl, hp, hb⟩; replace HV := Lib.hid (PtsAt.below HV.out hb); replace P0 := Lib.hid (PtsAt.below P0.out hb); replace P1 := Lib.hid (PtsAt.below P1.out hb); replace P2 := Lib.hid (PtsAt.below P2.out hb); replace P3 := Lib.hid (PtsAt.below P3.out hb); have P4 := Lib.hid hp; clear hp; replace HB := Lib.hid (bch' HB.out hb); clear hb) | (with_reducible refine ((A6.out _ HV.out).mono ?_); rintro e w' ⟨v5, rfl, hp, hb⟩; replace HV := Lib.hid (PtsAt.below HV.out hb); replace P0 := Lib.hid (PtsAt.below P0.out hb); replace P1 := Lib.hid (PtsAt.below P1.out hb); replace P2 := Lib.hid (PtsAt.below P2.out hb); replace P3 := Lib.hid (PtsAt.below P3.out hb); replace P4 := Lib.hid (PtsAt.below P4.out hb); have P5 := Lib.hid hp; clear hp; replace HB := Lib.hid (bch' HB.out hb); clear hb) | (with_reducible refine ((HAW.out _ (ENV.out.below HB.out)).mono ?_); rintro e w' ⟨rfl, hb⟩; replace P0 := Lib.hid (PtsAt.below P0.out hb); replace P1 := Lib.hid (PtsAt.below P1.out hb); replace P2 := Lib.hid (PtsAt.below P2.out hb); replace P3 := Lib.hid (PtsAt.below P3.out hb); replace P4 := Lib.hid (PtsAt.below P4.out hb); replace P5 := Lib.hid (PtsAt.below P5.out hb); replace HB := Lib.hid (bch' HB.out hb); clear hb) | (with_reducible refine ((S1.out _ _ _ P0.out P1.out).mono ?_); rintro e w' ⟨rfl, hb⟩; replace P2 := Lib.hid (PtsAt.below P2.out hb); replace P3 := Lib.hid (PtsAt.below P3.out hb); replace P4 := Lib.hid (PtsAt.below P4.out hb); replace P5 := Lib.hid (PtsAt.below P5.out hb); replace HB := Lib.hid (bch' HB.out hb); clear hb) | (with_reducible refine ((S2.out _ _ _ P2.out P3.out).mono ?_); rintro e w' ⟨rfl, hb⟩; replace P4 := Lib.hid (PtsAt.below P4.out hb); replace P5 := Lib.hid (PtsAt.below P5.out hb); replace HB := Lib.hid (bch' HB.out hb); clear hb) | (with_reducible refine ((S3.out _ _ _ P4.out P5.out).mono ?_); rintro e w' ⟨rfl, hb⟩; replace HB := Lib.hid (bch' HB.out hb); clear hb))
  go_ret
  exact ⟨rfl, HB.out⟩
end Go.Proofs.YtjfhebpfnegcjaaGreatDoor
