/-
  The reference of layer 30: Apply; the law MasterApplies.
-/
import Derived.Test.YtjagoloohhjjeaaGreatDoorHw
import Derived.Test.YtjagoloohhjjeaaGreatDoorMu
set_option linter.unusedVariables false
set_option linter.unusedSimpArgs false
namespace Go.Proofs.YtjagoloohhjjeaaGreatDoor
open Go.RowKit Go.Shelf Lum
open Go.Lib (decDigits itoa)
attribute [local go_sem] bs_get bs_extract_end bs_extract_from bs_extract bs_append

set_option maxRecDepth 100000 in
set_option maxHeartbeats 4000000 in
theorem r30_bounded (lim : Int) (v : Txt) (k : Nat) (w : World) (hx : v.length ≤ 100000) (hk : ∀ q, v = showR q → Fits k q) (hk2 : k ≤ 4000) (h0 : 0 ≤ lim) (h1 : lim ≤ 65535) :
    Calls Tryz.prog 55 #[.string ⟨(v).toArray⟩, .int .i64 lim] w fun e w' => e = .returned (.int .i64 (wiE v lim)) ∧ Below w.heap.size w w' := by
  have HB := Lib.hid (Below.refl w.heap.size w)
  have hc := fun W => r2_check v W hx
  have hw := fun W => r2_whole lim W (by omega) (by omega)
  rw [← showR_int] at hw
  by_cases hz : ratCheck v = 0
  · obtain ⟨q, rfl, -⟩ := ratCheck_zero v hz
    have fq := hk q rfl
    have fm := fits_i64 lim (by omega) (by omega)
    have o1 := fun W => r2_order q 0 W (fq.mono (by omega)) (fits_0.mono (by omega))
    rw [showR_zero] at o1
    have o2 := fun W => r2_order q ((lim : Int) : Rat) W (fq.mono (by omega)) (fm.mono (by omega))
    obtain ⟨s1, hs1⟩ : ∃ s, s = sgn q 0 := ⟨_, rfl⟩
    obtain ⟨s2, hs2⟩ : ∃ s, s = sgn q ((lim : Int) : Rat) := ⟨_, rfl⟩
    rw [← hs1] at o1
    rw [← hs2] at o2
    have HS1 := Lib.hid hs1; have HS2 := Lib.hid hs2; clear hs1 hs2
    rw [hz] at hc
    by_cases g1 : q < 0
    · rw [wiE_out hz (.inl g1)]
      have k1 : s1 < 0 := by rw [HS1.out]; exact (sgn_lt _ _).2 g1
      clear g1
      have HC := Lib.hid hc; clear hc
      have HW := Lib.hid hw; clear hw
      have HO1 := Lib.hid o1; clear o1
      have HO2 := Lib.hid o2; clear o2
      clear hz fq fm hk hx
      generalize showR q = tq at *
      generalize showR ((lim : Int) : Rat) = tl at *
      go_enter Tryz.func55, Tryz.ntmps55
      go_wp2_with (first | (with_reducible refine ((HC.out _).mono ?_); rintro e w' ⟨rfl, hb⟩; replace HB := Lib.hid (bch' HB.out hb); clear hb) | (with_reducible refine ((HO1.out _).mono ?_); rintro e w' ⟨rfl, hb⟩; replace HB := Lib.hid (bch' HB.out hb); clear hb) | (with_reducible refine ((HW.out _).mono ?_); rintro e w' ⟨rfl, hb⟩; replace HB := Lib.hid (bch' HB.out hb); clear hb) | (with_reducible refine ((HO2.out _).mono ?_); rintro e w' ⟨rfl, hb⟩; replace HB := Lib.hid (bch' HB.out hb); clear hb))
      go_ret
      exact ⟨rfl, HB.out⟩
    have k1 : ¬ s1 < 0 := by rw [HS1.out]; exact mt (sgn_lt _ _).1 g1
    by_cases g2 : ((lim : Int) : Rat) < q
    · rw [wiE_out hz (.inr g2)]
      have k2 : 0 < s2 := by rw [HS2.out]; exact (sgn_gt _ _).2 g2
      clear g1 g2
      have HC := Lib.hid hc; clear hc
      have HW := Lib.hid hw; clear hw
      have HO1 := Lib.hid o1; clear o1
      have HO2 := Lib.hid o2; clear o2
      clear hz fq fm hk hx
      generalize showR q = tq at *
      generalize showR ((lim : Int) : Rat) = tl at *
      go_enter Tryz.func55, Tryz.ntmps55
      go_wp2_with (first | (with_reducible refine ((HC.out _).mono ?_); rintro e w' ⟨rfl, hb⟩; replace HB := Lib.hid (bch' HB.out hb); clear hb) | (with_reducible refine ((HO1.out _).mono ?_); rintro e w' ⟨rfl, hb⟩; replace HB := Lib.hid (bch' HB.out hb); clear hb) | (with_reducible refine ((HW.out _).mono ?_); rintro e w' ⟨rfl, hb⟩; replace HB := Lib.hid (bch' HB.out hb); clear hb) | (with_reducible refine ((HO2.out _).mono ?_); rintro e w' ⟨rfl, hb⟩; replace HB := Lib.hid (bch' HB.out hb); clear hb))
      go_ret
      exact ⟨rfl, HB.out⟩
    have k2 : ¬ 0 < s2 := by rw [HS2.out]; exact mt (sgn_gt _ _).1 g2
    rw [wiE_in hz (fun h => h.elim g1 g2)]
    clear g1 g2
    have HC := Lib.hid hc; clear hc
    have HW := Lib.hid hw; clear hw
    have HO1 := Lib.hid o1; clear o1
    have HO2 := Lib.hid o2; clear o2
    clear hz fq fm hk hx
    generalize showR q = tq at *
    generalize showR ((lim : Int) : Rat) = tl at *
    go_enter Tryz.func55, Tryz.ntmps55
    go_wp2_with (first | (with_reducible refine ((HC.out _).mono ?_); rintro e w' ⟨rfl, hb⟩; replace HB := Lib.hid (bch' HB.out hb); clear hb) | (with_reducible refine ((HO1.out _).mono ?_); rintro e w' ⟨rfl, hb⟩; replace HB := Lib.hid (bch' HB.out hb); clear hb) | (with_reducible refine ((HW.out _).mono ?_); rintro e w' ⟨rfl, hb⟩; replace HB := Lib.hid (bch' HB.out hb); clear hb) | (with_reducible refine ((HO2.out _).mono ?_); rintro e w' ⟨rfl, hb⟩; replace HB := Lib.hid (bch' HB.out hb); clear hb))
    go_ret
    exact ⟨rfl, HB.out⟩
  · rw [wiE_bad hz]
    have hne : ((ratCheck v : Int) != 0) = true := by simpa using hz
    clear hz
    generalize ratCheck v = m at *
    have HC := Lib.hid hc; clear hc
    have HW := Lib.hid hw; clear hw
    go_enter Tryz.func55, Tryz.ntmps55
    go_wp2_with (first | (with_reducible refine ((HC.out _).mono ?_); rintro e w' ⟨rfl, hb⟩; replace HB := Lib.hid (bch' HB.out hb); clear hb))
    go_ret
    exact ⟨rfl, HB.out⟩

set_option maxRecDepth 100000 in
set_option maxHeartbeats 2000000 in
theorem r30_behind_no (at_ : Int) (v fa : Txt) (w : World) (h : ¬ at_ = 0) :
    Calls Tryz.prog 56 #[.string ⟨(v).toArray⟩, .string ⟨(fa).toArray⟩, .int .i64 at_] w fun e w' => e = .returned (.string ⟨(v).toArray⟩) ∧ Below w.heap.size w w' := by
  have HB := Lib.hid (Below.refl w.heap.size w)
  have o4 : ((at_ : Int) != 0) = true := by simpa using h
  clear h
  go_enter Tryz.func56, Tryz.ntmps56
  go_wp2_with fail
  go_ret
  exact ⟨rfl, HB.out⟩

set_option maxRecDepth 100000 in
set_option maxHeartbeats 2000000 in
theorem r30_behind_ok (x y : Rat) (w : World) (fx : Fits 9000 x) (fy : Fits 9000 y) :
    Calls Tryz.prog 56 #[.string ⟨(showR x).toArray⟩, .string ⟨(showR y).toArray⟩, .int .i64 0] w fun e w' => e = .returned (.string ⟨(showR (x * y)).toArray⟩) ∧ Below w.heap.size w w' := by
  have HB := Lib.hid (Below.refl w.heap.size w)
  have ht := fun W => r2_times x y W fx fy
  generalize showR (x * y) = t3 at *
  generalize showR x = t1 at *
  generalize showR y = t2 at *
  have HT := Lib.hid ht; clear ht
  go_enter Tryz.func56, Tryz.ntmps56
  go_wp2_with (first | (with_reducible refine ((HT.out _).mono ?_); rintro e w' ⟨rfl, hb⟩; replace HB := Lib.hid (bch' HB.out hb); clear hb))
  go_ret
  exact ⟨rfl, HB.out⟩

set_option maxRecDepth 100000 in
set_option maxHeartbeats 4000000 in
theorem r30_apply (at_ : Int) (v fa : Txt) (k l : Nat) (w : World) (hx : v.length ≤ 100000) (hy : fa.length ≤ 100000) (hk : ∀ q, v = showR q → Fits k q) (hl : ∀ q, fa = showR q → Fits l q) (hkl : k + l ≤ 4000) :
    Calls Tryz.prog 17 #[.string ⟨(v).toArray⟩, .string ⟨(fa).toArray⟩, .int .i64 at_] w fun e w' => e = .returned (.tuple #[.string ⟨((apT v fa at_).1).toArray⟩, .int .i64 ((apT v fa at_).2)]) ∧ Below w.heap.size w w' := by
  have HB := Lib.hid (Below.refl w.heap.size w)
  have ha := fun W => r30_bounded 65535 v k W hx hk (by omega) (by omega) (by omega)
  have hb2 := fun W => r30_bounded 1 fa l W hy hl (by omega) (by omega) (by omega)
  by_cases z1 : wiE v 65535 = 0
  · rw [z1] at ha
    by_cases z2 : wiE fa 1 = 0
    · rw [z2] at hb2
      by_cases o1 : at_ < 0
      · rw [apT_at z1 z2 (by omega)]
        clear z1 z2
        have HA := Lib.hid ha; clear ha
        have HB2 := Lib.hid hb2; clear hb2
        go_enter Tryz.func17, Tryz.ntmps17
        go_wp2_with (first | (with_reducible refine ((HA.out _).mono ?_); rintro e w' ⟨rfl, hb⟩; replace HB := Lib.hid (bch' HB.out hb); clear hb) | (with_reducible refine ((HB2.out _).mono ?_); rintro e w' ⟨rfl, hb⟩; replace HB := Lib.hid (bch' HB.out hb); clear hb) | (with_reducible refine ((HBE.out _).mono ?_); rintro e w' ⟨rfl, hb⟩; replace HB := Lib.hid (bch' HB.out hb); clear hb))
        go_ret2
        exact ⟨rfl, HB.out⟩
      by_cases o2 : 15 ≤ at_
      · rw [apT_at z1 z2 (by omega)]
        clear z1 z2
        have HA := Lib.hid ha; clear ha
        have HB2 := Lib.hid hb2; clear hb2
        go_enter Tryz.func17, Tryz.ntmps17
        go_wp2_with (first | (with_reducible refine ((HA.out _).mono ?_); rintro e w' ⟨rfl, hb⟩; replace HB := Lib.hid (bch' HB.out hb); clear hb) | (with_reducible refine ((HB2.out _).mono ?_); rintro e w' ⟨rfl, hb⟩; replace HB := Lib.hid (bch' HB.out hb); clear hb) | (with_reducible refine ((HBE.out _).mono ?_); rintro e w' ⟨rfl, hb⟩; replace HB := Lib.hid (bch' HB.out hb); clear hb))
        go_ret2
        exact ⟨rfl, HB.out⟩
      by_cases o3 : at_ = 0
      · rw [apT_ok z1 z2 (by omega) o3]
        subst o3
        obtain ⟨x, rfl, e1, -, -⟩ := wiE_zero z1
        obtain ⟨y, rfl, e2, -, -⟩ := wiE_zero z2
        rw [e1, e2]
        have hbe := fun W => r30_behind_ok x y W ((hk x rfl).mono (by omega)) ((hl y rfl).mono (by omega))
        clear z1 z2 e1 e2 hk hl
        generalize showR (x * y) = t3 at *
        generalize showR x = t1 at *
        generalize showR y = t2 at *
        have HA := Lib.hid ha; clear ha
        have HB2 := Lib.hid hb2; clear hb2
        have HBE := Lib.hid hbe; clear hbe
        go_enter Tryz.func17, Tryz.ntmps17
        go_wp2_with (first | (with_reducible refine ((HA.out _).mono ?_); rintro e w' ⟨rfl, hb⟩; replace HB := Lib.hid (bch' HB.out hb); clear hb) | (with_reducible refine ((HB2.out _).mono ?_); rintro e w' ⟨rfl, hb⟩; replace HB := Lib.hid (bch' HB.out hb); clear hb) | (with_reducible refine ((HBE.out _).mono ?_); rintro e w' ⟨rfl, hb⟩; replace HB := Lib.hid (bch' HB.out hb); clear hb))
        go_ret2
        exact ⟨rfl, HB.out⟩
      · rw [apT_no z1 z2 (by omega) o3]
        have hbe := fun W => r30_behind_no at_ v fa W o3
        clear z1 z2 o3
        have HA := Lib.hid ha; clear ha
        have HB2 := Lib.hid hb2; clear hb2
        have HBE := Lib.hid hbe; clear hbe
        go_enter Tryz.func17, Tryz.ntmps17
        go_wp2_with (first | (with_reducible refine ((HA.out _).mono ?_); rintro e w' ⟨rfl, hb⟩; replace HB := Lib.hid (bch' HB.out hb); clear hb) | (with_reducible refine ((HB2.out _).mono ?_); rintro e w' ⟨rfl, hb⟩; replace HB := Lib.hid (bch' HB.out hb); clear hb) | (with_reducible refine ((HBE.out _).mono ?_); rintro e w' ⟨rfl, hb⟩; replace HB := Lib.hid (bch' HB.out hb); clear hb))
        go_ret2
        exact ⟨rfl, HB.out⟩
    · rw [apT_f z1 z2]
      have hne : ((wiE fa 1 : Int) != 0) = true := by simpa using z2
      clear z1 z2
      generalize wiE fa 1 = m at *
      have HA := Lib.hid ha; clear ha
      have HB2 := Lib.hid hb2; clear hb2
      go_enter Tryz.func17, Tryz.ntmps17
      go_wp2_with (first | (with_reducible refine ((HA.out _).mono ?_); rintro e w' ⟨rfl, hb⟩; replace HB := Lib.hid (bch' HB.out hb); clear hb) | (with_reducible refine ((HB2.out _).mono ?_); rintro e w' ⟨rfl, hb⟩; replace HB := Lib.hid (bch' HB.out hb); clear hb) | (with_reducible refine ((HBE.out _).mono ?_); rintro e w' ⟨rfl, hb⟩; replace HB := Lib.hid (bch' HB.out hb); clear hb))
      go_ret2
      exact ⟨rfl, HB.out⟩
  · rw [apT_v z1]
    have hne : ((wiE v 65535 : Int) != 0) = true := by simpa using z1
    clear z1
    generalize wiE v 65535 = m at *
    have HA := Lib.hid ha; clear ha
    have HB2 := Lib.hid hb2; clear hb2
    go_enter Tryz.func17, Tryz.ntmps17
    go_wp2_with (first | (with_reducible refine ((HA.out _).mono ?_); rintro e w' ⟨rfl, hb⟩; replace HB := Lib.hid (bch' HB.out hb); clear hb) | (with_reducible refine ((HB2.out _).mono ?_); rintro e w' ⟨rfl, hb⟩; replace HB := Lib.hid (bch' HB.out hb); clear hb) | (with_reducible refine ((HBE.out _).mono ?_); rintro e w' ⟨rfl, hb⟩; replace HB := Lib.hid (bch' HB.out hb); clear hb))
    go_ret2
    exact ⟨rfl, HB.out⟩

set_option maxRecDepth 100000 in
set_option maxHeartbeats 4000000 in
theorem law_applies (v fa : Txt) (at_ : Int) (w : World) (hs0 : v.length ≤ 9223372036854775807) (hs1 : fa.length ≤ 9223372036854775807) (a0 : -9223372036854775808 ≤ at_) (a1 : at_ ≤ 9223372036854775807) (env : Env w) :
    Calls Tryz.prog 4 #[.string ⟨(v).toArray⟩, .string ⟨(fa).toArray⟩, .int .i64 at_] w fun e w' => e = .returned (.bool (true)) ∧ Below w.heap.size w w' := by
  have ENV := Lib.hid env; clear env
  have HB := Lib.hid (Below.refl w.heap.size w)
  have haw := fun W (e : Env W) => l30_awake W e
  by_cases l1 : 100 < v.length
  · have l3 : (100 : Int) < (v.length : Int) := by omega
    have HAW := Lib.hid haw; clear haw
    go_enter Tryz.func4, Tryz.ntmps4
    go_wp2_with (first | (with_reducible refine ((HAW.out _ (ENV.out.below HB.out)).mono ?_); rintro e w' ⟨rfl, hb⟩; replace HB := Lib.hid (bch' HB.out hb); clear hb))
    go_ret
    exact ⟨rfl, HB.out⟩
  have l3 : ¬ (100 : Int) < (v.length : Int) := by omega
  by_cases l2 : 100 < fa.length
  · have l4 : (100 : Int) < (fa.length : Int) := by omega
    have HAW := Lib.hid haw; clear haw
    go_enter Tryz.func4, Tryz.ntmps4
    go_wp2_with (first | (with_reducible refine ((HAW.out _ (ENV.out.below HB.out)).mono ?_); rintro e w' ⟨rfl, hb⟩; replace HB := Lib.hid (bch' HB.out hb); clear hb))
    go_ret
    exact ⟨rfl, HB.out⟩
  have l4 : ¬ (100 : Int) < (fa.length : Int) := by omega
  have ha := fun W (e : Env W) => own_mapply at_ v fa 101 101 W (by omega) (by omega) (fun q h => fits_of_len (k := 100) (by rw [← h]; omega)) (fun q h => fits_of_len (k := 100) (by rw [← h]; omega)) (by omega) e
  have hr := fun W => r30_apply at_ v fa 101 101 W (by omega) (by omega) (fun q h => fits_of_len (k := 100) (by rw [← h]; omega)) (fun q h => fits_of_len (k := 100) (by rw [← h]; omega)) (by omega)
  generalize (apT v fa at_).1 = t1 at *
  generalize (apT v fa at_).2 = t2 at *
  have HAW := Lib.hid haw; clear haw
  have HA := Lib.hid ha; clear ha
  have HR := Lib.hid hr; clear hr
  go_enter Tryz.func4, Tryz.ntmps4
  go_wp2_with (first | (with_reducible refine ((HAW.out _ (ENV.out.below HB.out)).mono ?_); rintro e w' ⟨rfl, hb⟩; replace HB := Lib.hid (bch' HB.out hb); clear hb) | (with_reducible refine ((HA.out _ (ENV.out.below HB.out)).mono ?_); rintro e w' ⟨rfl, hb⟩; replace HB := Lib.hid (bch' HB.out hb); clear hb) | (with_reducible refine ((HR.out _).mono ?_); rintro e w' ⟨rfl, hb⟩; replace HB := Lib.hid (bch' HB.out hb); clear hb))
  go_ret
  exact ⟨rfl, HB.out⟩
end Go.Proofs.YtjagoloohhjjeaaGreatDoor
