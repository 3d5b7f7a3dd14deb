/-
  The law WaveTurns: the walk.
-/
import Derived.Test.YtjfhebpfnegcjaaGreatDoorWv18
import Derived.Test.YtjfhebpfnegcjaaGreatDoorWv17
set_option linter.unusedVariables false
set_option linter.unusedSimpArgs false
namespace Lum
open Go Go.RowKit Go.Shelf
open Go.Lib (decDigits itoa)
theorem scanW_of_wv {l : List (Int × Int)} (w : Wv l) : ∀ n i, i + n ≤ l.length → scanW l n i = 0
  | 0, _, _ => rfl
  | n + 1, i, h => by
    have hy := w.h i (by omega)
    rw [scanW, if_neg (by omega), if_neg]
    · exact scanW_of_wv w n (i + 1) (by omega)
    · intro ⟨h0, h1⟩
      have := w.s (i - 1) (by omega)
      rw [show i - 1 + 1 = i by omega] at this
      omega
theorem wvE_of_wv {l : List (Int × Int)} (w : Wv l) : wvE l = 0 := by
  have h0 := w.lo; have h1 := w.hi; have hx := w.x0; have hx1 := w.x1; have hy := w.y
  unfold wvE
  rw [if_neg (by omega), if_neg (by omega), scanW_of_wv w l.length 0 (by omega), if_neg (by simp), if_neg (by simpa using hy)]
theorem meanW_flip (l : List (Int × Int)) : meanW (flipL l) = -meanW l := by unfold meanW; rw [areaL_flip, Rat.neg_divInt]
theorem meanW_mir (l : List (Int × Int)) : meanW (mirL l) = meanW l := by unfold meanW; rw [areaL_mir]
theorem fits_divI (m R : Int) (hm0 : -9223372036854775808 ≤ m) (hm1 : m ≤ 9223372036854775807) (hR0 : 1 ≤ R) (hR1 : R ≤ 9223372036854775807) : Fits 19 (Rat.divInt m R) :=
  divInt_fits m R (by omega) 19 (dl_i64 m hm0 hm1) (dl_i64 R (by omega) hR1)
theorem fits_mean {l : List (Int × Int)} (w : Wv l) : Fits 19 (meanW l) := by
  have h0 := w.lo
  have := area_bound w l.length (by omega) (Nat.le_refl _)
  rw [List.take_length, w.x1] at this
  exact fits_divI _ 2000 (by omega) (by omega) (by omega) (by omega)
end Lum
namespace Go.Proofs.YtjfhebpfnegcjaaGreatDoor
open Go.RowKit Go.Shelf Lum
open Go.Lib (decDigits itoa)
attribute [local go_sem] bs_get bs_extract_end bs_extract_from bs_extract bs_append

set_option maxRecDepth 100000 in
set_option maxHeartbeats 8000000 in
theorem law_turns27 (l : List (Int × Int)) (v : Value) (x : Txt) (w : World) (hv : PtsAt w v l) (hx : x.length ≤ 9223372036854775807) (env : Env w) :
    Calls Tryz.prog 8 #[v, .string ⟨(x).toArray⟩] w fun e w' => e = .returned (.bool (true)) ∧ Below w.heap.size w w' := by
  have ENV := Lib.hid env; clear env
  have HB := Lib.hid (Below.refl w.heap.size w)
  have HV := Lib.hid hv
  have haw := fun W (e : Env W) => law27_awake W e
  have HAW := Lib.hid haw; clear haw
  by_cases hk : ¬ (wvE l = 0 ∧ x.length ≤ 120 ∧ ratCheck x = 0)
  · have hr := law27_right_no l v x w hv hx hk
    have HR := Lib.hid hr; clear hr hk
    obtain ⟨p, c, rfl, -⟩ := hv
    go_enter Tryz.func8, Tryz.ntmps8
    go_wp2_with (first | (with_reducible refine ((HR.out).mono ?_); rintro e w' ⟨rfl, hb⟩; replace HV := Lib.hid (PtsAt.below HV.out hb); replace HB := Lib.hid (bch' HB.out hb); clear hb) | (with_reducible refine ((HAW.out _ (ENV.out.below HB.out)).mono ?_); rintro e w' ⟨rfl, hb⟩; replace HB := Lib.hid (bch' HB.out hb); clear hb))
    go_ret
    exact ⟨rfl, HB.out⟩
  have hk2 := Decidable.not_not.1 hk
  clear hk
  obtain ⟨k1, k2, k3⟩ := hk2
  have hr := law27_right_ok l v x w hv hx k1 k2 k3
  have wv := wvE_zero k1
  obtain ⟨q, rfl, -⟩ := ratCheck_zero x k3
  have fq := (fits_of_len k2).mono (show 121 ≤ 400 by omega)
  have hhi := wv.hi
  have hlo := wv.lo
  have hl : l.length ≤ 1000000000 := by omega
  have kf := wvE_of_wv wv.flip
  have km := wvE_of_wv wv.mir
  have hlf : (flipL l).length ≤ 1000000000 := by rw [flipL_length]; exact hl
  have hlm : (mirL l).length ≤ 1000000000 := by rw [mirL_length]; exact hl
  have hne : l ≠ [] := fun h => by subst h; simp at hlo
  obtain ⟨p, c, rfl, -⟩ := hv
  obtain ⟨V, hV⟩ : ∃ V, V = Value.slice p l.length c := ⟨_, rfl⟩
  rw [← hV] at HV hr ⊢
  clear hV
  have a1 := fun W (h : PtsAt W V l) => own_flip l _ W h hl
  have a2 := fun W (h : PtsAt W V l) => own_mirror l _ W h hl
  have a3 := fun W u (h : PtsAt W u (flipL l)) => own_flip (flipL l) u W h hlf
  have a4 := fun W u (h : PtsAt W u (mirL l)) => own_mirror (mirL l) u W h hlm
  rw [onlyR_ok k1, k1] at a1 a2
  rw [onlyR_ok kf, kf, flipL_flipL] at a3
  rw [onlyR_ok km, km, mirL_mirL] at a4
  have e1 := fun W u (h : PtsAt W u l) (h2 : PtsAt W V l) => pt_equal l l u V W h h2 hl hl hne hne
  rw [decide_eq_true rfl] at e1
  have b1 := fun W (e : Env W) (h : PtsAt W V l) => own_at_ok l _ q W h hl k1 fq e
  have b2 := fun W u (e : Env W) (h : PtsAt W u (flipL l)) => own_at_ok (flipL l) u q W h hlf kf fq e
  rw [hgt_flip wv] at b2
  have b3 := fun W u (e : Env W) (h : PtsAt W u (mirL l)) => own_at_ok (mirL l) u (-q) W h hlm km (fits_neg fq) e
  rw [hgt_mir wv] at b3
  have t1 := fun W => r2_turned q W (fq.mono (by omega))
  have fH := fits_hgt wv fq
  have t2 := fun W => r2_turned (hgtW l q) W (fH.mono (by omega))
  have m1 := fun W (e : Env W) (h : PtsAt W V l) => own_mean_ok l _ W h hl k1 e
  have m2 := fun W u (e : Env W) (h : PtsAt W u (flipL l)) => own_mean_ok (flipL l) u W h hlf kf e
  have m3 := fun W u (e : Env W) (h : PtsAt W u (mirL l)) => own_mean_ok (mirL l) u W h hlm km e
  rw [meanW_flip] at m2
  rw [meanW_mir] at m3
  have fM := fits_mean wv
  have t3 := fun W => r2_turned (meanW l) W (fM.mono (by omega))
  have c1 := fun W => r2_check (showR (hgtW l q)) W (len_ok fH (by omega))
  rw [check_gen fH (by omega)] at c1
  have c2 := fun W => r2_check (showR (meanW l)) W (len_ok fM (by omega))
  rw [check_gen fM (by omega)] at c2
  clear fq fH fM k1 k2 k3 kf km hl hlf hlm hlo hhi hx hne wv
  generalize showR (-(hgtW l q)) = tH2 at *
  generalize showR (hgtW l q) = tH at *
  generalize showR (-(meanW l)) = tM2 at *
  generalize showR (meanW l) = tM at *
  generalize showR (-q) = tq2 at *
  generalize showR q = tq at *
  have HR := Lib.hid hr; clear hr
  have A1 := Lib.hid a1; clear a1
  have A2 := Lib.hid a2; clear a2
  have A3 := Lib.hid a3; clear a3
  have A4 := Lib.hid a4; clear a4
  have E1 := Lib.hid e1; clear e1
  have B1 := Lib.hid b1; clear b1
  have B2 := Lib.hid b2; clear b2
  have B3 := Lib.hid b3; clear b3
  have T1 := Lib.hid t1; clear t1
  have T2 := Lib.hid t2; clear t2
  have T3 := Lib.hid t3; clear t3
  have M1 := Lib.hid m1; clear m1
  have M2 := Lib.hid m2; clear m2
  have M3 := Lib.hid m3; clear m3
  have C1 := Lib.hid c1; clear c1
  have C2 := Lib.hid c2; clear c2
  go_enter Tryz.func8, Tryz.ntmps8
  go_wp2_with (first | (with_reducible refine ((HR.out).mono ?_); rintro e w' ⟨rfl, hb⟩; replace HV := Lib.hid (PtsAt.below HV.out hb); replace HB := Lib.hid (bch' HB.out hb); clear hb) | (with_reducible refine ((A1.out _ HV.out).mono ?_); rintro e w' ⟨v1, rfl, hp, hb⟩; replace HV := Lib.hid (PtsAt.below HV.out hb); have P1 := Lib.hid hp; clear hp; replace HB := Lib.hid (bch' HB.out hb); clear hb) | (with_reducible refine ((A2.out _ HV.out).mono ?_); rintro e w' ⟨v2, rfl, hp, hb⟩; replace HV := Lib.hid (PtsAt.below HV.out hb); replace P1 := Lib.hid (PtsAt.below P1.out hb); have P2 := Lib.hid hp; clear hp; replace HB := Lib.hid (bch' HB.out hb); clear hb) | (with_reducible refine ((A3.out _ _ P1.out).mono ?_); rintro e w' ⟨v3, rfl, hp, hb⟩; replace HV := Lib.hid (PtsAt.below HV.out hb); replace P1 := Lib.hid (PtsAt.below P1.out hb); replace P2 := Lib.hid (PtsAt.below P2.out hb); have P3 := Lib.hid hp; clear hp; replace HB := Lib.hid (bch' HB.out hb); clear hb) | (with_reducible refine ((A4.out _ _ P2.out).mono ?_); rintro e w' ⟨v4, rfl, hp, hb⟩; replace HV := Lib.hid (PtsAt.below HV.out hb); replace P1 := Lib.hid (PtsAt.below P1.out hb); replace P2 := Lib.hid (PtsAt.below P2.out hb); replace P3 := Lib.hid (PtsAt.below P3.out hb); have P4 := Lib.hid hp; clear hp; replace HB := Lib.hid (bch' HB.out hb); clear hb) | (with_reducible refine ((E1.out _ _ P3.out HV.out).mono ?_); rintro e w' ⟨rfl, hb⟩; replace HV := Lib.hid (PtsAt.below HV.out hb); replace P1 := Lib.hid (PtsAt.below P1.out hb); replace P2 := Lib.hid (PtsAt.below P2.out hb); replace P4 := Lib.hid (PtsAt.below P4.out hb); replace HB := Lib.hid (bch' HB.out hb); clear hb) | (with_reducible refine ((E1.out _ _ P4.out HV.out).mono ?_); rintro e w' ⟨rfl, hb⟩; replace HV := Lib.hid (PtsAt.below HV.out hb); replace P1 := Lib.hid (PtsAt.below P1.out hb); replace P2 := Lib.hid (PtsAt.below P2.out hb); replace HB := Lib.hid (bch' HB.out hb); clear hb) | (with_reducible refine ((B1.out _ (ENV.out.below HB.out) HV.out).mono ?_); rintro e w' ⟨rfl, hb⟩; replace HV := Lib.hid (PtsAt.below HV.out hb); replace P1 := Lib.hid (PtsAt.below P1.out hb); replace P2 := Lib.hid (PtsAt.below P2.out hb); replace HB := Lib.hid (bch' HB.out hb); clear hb) | (with_reducible refine ((B2.out _ _ (ENV.out.below HB.out) P1.out).mono ?_); rintro e w' ⟨rfl, hb⟩; replace HV := Lib.hid (PtsAt.below HV.out hb); replace P1 := Lib.hid (PtsAt.below P1.out hb); replace P2 := Lib.hid (PtsAt.below P2.out hb); replace HB := Lib.hid (bch' HB.out hb); clear hb) | (with_reducible refine ((B3.out _ _ (ENV.out.below HB.out) P2.out).mono ?_); rintro e w' ⟨rfl, hb⟩; replace HV := Lib.hid (PtsAt.below HV.out hb); replace P1 := Lib.hid (PtsAt.below P1.out hb); replace P2 := Lib.hid (PtsAt.below P2.out hb); replace HB := Lib.hid (bch' HB.out hb); clear hb) | (with_reducible refine ((T1.out _).mono ?_); rintro e w' ⟨rfl, rfl⟩) | (with_reducible refine ((T2.out _).mono ?_); rintro e w' ⟨rfl, rfl⟩) | (with_reducible refine ((T3.out _).mono ?_); rintro e w' ⟨rfl, rfl⟩) | (with_reducible refine ((M1.out _ (ENV.out.below HB.out) HV.out).mono ?_); rintro e w' ⟨rfl, hb⟩; replace HV := Lib.hid (PtsAt.below HV.out hb); replace P1 := Lib.hid (PtsAt.below P1.out hb); replace P2 := Lib.hid (PtsAt.below P2.out hb); replace HB := Lib.hid (bch' HB.out hb); clear hb) | (with_reducible refine ((M2.out _ _ (ENV.out.below HB.out) P1.out).mono ?_); rintro e w' ⟨rfl, hb⟩; replace HV := Lib.hid (PtsAt.below HV.out hb); replace P1 := Lib.hid (PtsAt.below P1.out hb); replace P2 := Lib.hid (PtsAt.below P2.out hb); replace HB := Lib.hid (bch' HB.out hb); clear hb) | (with_reducible refine ((M3.out _ _ (ENV.out.below HB.out) P2.out).mono ?_); rintro e w' ⟨rfl, hb⟩; replace HV := Lib.hid (PtsAt.below HV.out hb); replace P1 := Lib.hid (PtsAt.below P1.out hb); replace P2 := Lib.hid (PtsAt.below P2.out hb); replace HB := Lib.hid (bch' HB.out hb); clear hb) | (with_reducible refine ((C1.out _).mono ?_); rintro e w' ⟨rfl, hb⟩; replace HB := Lib.hid (bch' HB.out hb); clear hb) | (with_reducible refine ((C2.out _).mono ?_); rintro e w' ⟨rfl, hb⟩; replace HB := Lib.hid (bch' HB.out hb); clear hb) | (with_reducible refine ((HAW.out _ (ENV.out.below HB.out)).mono ?_); rintro e w' ⟨rfl, hb⟩; replace HB := Lib.hid (bch' HB.out hb); clear hb))
  go_ret
  exact ⟨rfl, HB.out⟩
end Go.Proofs.YtjfhebpfnegcjaaGreatDoor
