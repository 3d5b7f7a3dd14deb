/-
  Waves: Extremes, Mean, Tidy with errors; Mirror; right.
-/
import Derived.Test.YtjfhebpfnegcjaaGreatDoorWv9
import Derived.Test.YtjfhebpfnegcjaaGreatDoorWv10
import Derived.Test.YtjfhebpfnegcjaaGreatDoorWv5
import Derived.Test.YtjfhebpfnegcjaaGreatDoorSlP
set_option linter.unusedVariables false
set_option linter.unusedSimpArgs false
namespace Lum
open Go Go.RowKit Go.Shelf
open Go.Lib (decDigits itoa)
def exT (l : List (Int × Int)) : Int × Int × Int := if wvE l ≠ 0 then (0, 0, wvE l) else (loF l l.length, hiF l l.length, 0)
theorem exT_ok {l : List (Int × Int)} (h : wvE l = 0) : exT l = (loF l l.length, hiF l l.length, 0) := by unfold exT; rw [if_neg (by simpa using h)]
theorem exT_no {l : List (Int × Int)} (h : ¬ wvE l = 0) : exT l = (0, 0, wvE l) := by unfold exT; rw [if_pos h]
theorem meT_ok {l : List (Int × Int)} (h : wvE l = 0) : meT l = (showR (meanW l), 0) := by unfold meT; rw [if_neg (by simpa using h)]
theorem meT_no {l : List (Int × Int)} (h : ¬ wvE l = 0) : meT l = ([], wvE l) := by unfold meT; rw [if_pos h]
end Lum
namespace Go.Proofs.YtjfhebpfnegcjaaGreatDoor
open Go.RowKit Go.Shelf Lum
open Go.Lib (decDigits itoa)
attribute [local go_sem] bs_get bs_extract_end bs_extract_from bs_extract bs_append

set_option maxRecDepth 100000 in
set_option maxHeartbeats 4000000 in
theorem r27_extremes (l : List (Int × Int)) (v : Value) (w : World) (hv : PtsAt w v l) (hn : l.length ≤ 1000000000) :
    Calls Tryz.prog 16 #[v] w fun e w' => e = .returned (.tuple #[.int .i64 (exT l).1, .int .i64 (exT l).2.1, .int .i64 (exT l).2.2]) ∧ Below w.heap.size w w' := by
  by_cases hz : wvE l = 0
  · rw [exT_ok hz]
    exact r27_extremes_ok l v w hv hn hz
  · rw [exT_no hz]
    dsimp only
    have hk := r27_check l v w hv hn
    have hne : ((wvE l : Int) != 0) = true := by simpa using hz
    clear hz
    obtain ⟨p, c, rfl, -⟩ := hv
    have HK := Lib.hid hk; clear hk
    generalize wvE l = m at *
    go_enter Tryz.func16, Tryz.ntmps16
    go_wp2_with ((with_reducible refine ((HK.out).mono ?_)); rintro e w' ⟨rfl, hb1⟩; have HB := Lib.hid hb1; clear hb1)
    go_ret3
    exact ⟨rfl, HB.out⟩

set_option maxRecDepth 100000 in
set_option maxHeartbeats 4000000 in
theorem own_extremes (l : List (Int × Int)) (v : Value) (w : World) (hv : PtsAt w v l) (hn : l.length ≤ 1000000000) :
    Calls Tryz.prog 15 #[v] w fun e w' => e = .returned (.tuple #[.int .i64 (exT l).1, .int .i64 (exT l).2.1, .int .i64 (exT l).2.2]) ∧ Below w.heap.size w w' := by
  by_cases hz : wvE l = 0
  · rw [exT_ok hz]
    exact own_extremes_ok l v w hv hn hz
  · rw [exT_no hz]
    dsimp only
    have hk := own_wcheck l v w hv hn
    have hne : ((wvE l : Int) != 0) = true := by simpa using hz
    clear hz
    obtain ⟨p, c, rfl, -⟩ := hv
    have HK := Lib.hid hk; clear hk
    generalize wvE l = m at *
    go_enter Tryz.func15, Tryz.ntmps15
    go_wp2_with ((with_reducible refine ((HK.out).mono ?_)); rintro e w' ⟨rfl, hb1⟩; have HB := Lib.hid hb1; clear hb1)
    go_ret3
    exact ⟨rfl, HB.out⟩

set_option maxRecDepth 100000 in
set_option maxHeartbeats 4000000 in
theorem r27_mean (l : List (Int × Int)) (v : Value) (w : World) (hv : PtsAt w v l) (hn : l.length ≤ 1000000000) :
    Calls Tryz.prog 18 #[v] w fun e w' => e = .returned (.tuple #[.string ⟨((meT l).1).toArray⟩, .int .i64 (meT l).2]) ∧ Below w.heap.size w w' := by
  by_cases hz : wvE l = 0
  · rw [meT_ok hz]
    exact r27_mean_ok l v w hv hn hz
  · rw [meT_no hz]
    dsimp only
    have hk := r27_check l v w hv hn
    have hne : ((wvE l : Int) != 0) = true := by simpa using hz
    clear hz
    obtain ⟨p, c, rfl, -⟩ := hv
    have HK := Lib.hid hk; clear hk
    generalize wvE l = m at *
    go_enter Tryz.func18, Tryz.ntmps18
    go_wp2_with ((with_reducible refine ((HK.out).mono ?_)); rintro e w' ⟨rfl, hb1⟩; have HB := Lib.hid hb1; clear hb1)
    go_ret2
    exact ⟨rfl, HB.out⟩

set_option maxRecDepth 100000 in
set_option maxHeartbeats 4000000 in
theorem own_mean (l : List (Int × Int)) (v : Value) (w : World) (hv : PtsAt w v l) (hn : l.length ≤ 1000000000) (env : Env w) :
    Calls Tryz.prog 17 #[v] w fun e w' => e = .returned (.tuple #[.string ⟨((meT l).1).toArray⟩, .int .i64 (meT l).2]) ∧ Below w.heap.size w w' := by
  by_cases hz : wvE l = 0
  · rw [meT_ok hz]
    exact own_mean_ok l v w hv hn hz env
  · rw [meT_no hz]
    dsimp only
    have hk := own_wcheck l v w hv hn
    have hne : ((wvE l : Int) != 0) = true := by simpa using hz
    clear hz
    obtain ⟨p, c, rfl, -⟩ := hv
    have HK := Lib.hid hk; clear hk
    generalize wvE l = m at *
    go_enter Tryz.func17, Tryz.ntmps17
    go_wp2_with ((with_reducible refine ((HK.out).mono ?_)); rintro e w' ⟨rfl, hb1⟩; have HB := Lib.hid hb1; clear hb1)
    go_ret2
    exact ⟨rfl, HB.out⟩

set_option maxRecDepth 100000 in
set_option maxHeartbeats 4000000 in
theorem own_tidy (l : List (Int × Int)) (v : Value) (w : World) (hv : PtsAt w v l) (hn : l.length ≤ 1000000000) :
    Calls Tryz.prog 26 #[v] w fun e w' => ∃ v', e = .returned (.tuple #[v', .int .i64 (wvE l)]) ∧ PtsAt w' v' (onlyR l (tidF l.length 1 l)) ∧ Below w.heap.size w w' := by
  by_cases hz : wvE l = 0
  · rw [onlyR_ok hz, hz]
    exact own_tidy_ok l v w hv hn hz
  · have h := own_changed 62 (fun p => p) l v w hv hn tidy_fun (enters_of Tryz.func62 (by kernel_rfl) rfl)
    rw [onlyR_no hz] at h ⊢
    simp only [List.length_nil] at h
    have H := Lib.hid h; clear h hz
    obtain ⟨p, c, rfl, -⟩ := hv
    generalize wvE l = m at *
    go_enter Tryz.func26, Tryz.ntmps26
    go_wp2_with ((with_reducible refine ((H.out).mono ?_)); rintro e w1 ⟨p1, c1, rfl, hO, hb1⟩; have HB := Lib.hid hb1; have HO := Lib.hid hO; clear hb1 hO)
    go_loopw [4, 6] (fun s i wr => s = .slice p1 0 c1 ∧ i = .int .i64 1 ∧ wr = w1) (fun _ i _ => 0)
    case atStart => exact ⟨rfl, rfl, rfl⟩
    case round =>
      obtain ⟨rfl, rfl, rfl⟩ := hrel
      go_wp2
      go_ret2
      exact ⟨_, rfl, HO.out.pts, HB.out⟩

set_option maxRecDepth 100000 in
set_option maxHeartbeats 4000000 in
theorem own_mirror (l : List (Int × Int)) (v : Value) (w : World) (hv : PtsAt w v l) (hn : l.length ≤ 1000000000) :
    Calls Tryz.prog 30 #[v] w fun e w' => ∃ v', e = .returned (.tuple #[v', .int .i64 (wvE l)]) ∧ PtsAt w' v' (onlyR l (mirL l)) ∧ Below w.heap.size w w' := by
  have h := own_changed 65 (fun p => (1000 - p.1, p.2)) l v w hv hn mir_fun (enters_of Tryz.func65 (by kernel_rfl) rfl)
  have H := Lib.hid h; clear h
  have hlr : (onlyR l (l.map fun p => (1000 - p.1, p.2))).length ≤ 1000000000 := by unfold onlyR; split <;> simp; exact hn
  have hr := fun p c W (hO : OwnP w.heap.size 51 W p c (onlyR l (l.map fun p => (1000 - p.1, p.2)))) => pt_reverse w.heap.size _ p c W hO hlr
  have e : (onlyR l (l.map fun p => (1000 - p.1, p.2))).reverse = onlyR l (mirL l) := by unfold onlyR mirL; split <;> rfl
  rw [e] at hr
  have HR := Lib.hid hr; clear hr hlr e
  obtain ⟨p, c, rfl, -⟩ := hv
  generalize (onlyR l (l.map fun p => (1000 - p.1, p.2))).length = N at *
  generalize wvE l = m at *
  go_enter Tryz.func30, Tryz.ntmps30
  go_wp2_with (first | (with_reducible refine ((H.out).mono ?_); rintro e w1 ⟨p1, c1, rfl, hO, hb1⟩; have HB := Lib.hid hb1; have HO := Lib.hid hO; clear hb1 hO) | (with_reducible refine ((HR.out _ _ _ HO.out).mono ?_); rintro e w2 ⟨rfl, hp2, hb2⟩; have HP := Lib.hid hp2; have HB2 := Lib.hid (HB.out.trans hb2); clear hb2 hp2))
  go_ret2
  exact ⟨_, rfl, HP.out, HB2.out⟩

set_option maxRecDepth 100000 in
set_option maxHeartbeats 4000000 in
theorem r27_check_any (l : List (Int × Int)) (v : Value) (w : World) (hv : PtsAt w v l) :
    Calls Tryz.prog 20 #[v] w fun e w' => e = .returned (.int .i64 (wvE l)) ∧ Below w.heap.size w w' := by
  by_cases hn : l.length ≤ 1000000000
  · exact r27_check l v w hv hn
  · rw [wvE_len (by omega)]
    obtain ⟨p, c, rfl, -⟩ := hv
    have h1 : ¬ l.length < 2 := by omega
    have h0 : 16 < l.length := by omega
    clear hn
    go_enter Tryz.func20, Tryz.ntmps20
    go_wp2
    go_ret
    exact ⟨rfl, Below.refl _ _⟩

set_option maxRecDepth 100000 in
set_option maxHeartbeats 4000000 in
theorem law27_right_ok (l : List (Int × Int)) (v : Value) (x : Txt) (w : World) (hv : PtsAt w v l) (hx : x.length ≤ 9223372036854775807) (h1 : wvE l = 0) (h2 : x.length ≤ 120) (h3 : ratCheck x = 0) :
    Calls Tryz.prog 21 #[v, .string ⟨x.toArray⟩] w fun e w' => e = .returned (.bool true) ∧ Below w.heap.size w w' := by
  have hk := r27_check_any l v w hv
  have hr := fun W => r2_check x W (by omega)
  have hf := fun W => r2_few x W
  rw [h1] at hk; rw [h3] at hr
  rw [decide_eq_true h2] at hf
  have HB := Lib.hid (Below.refl w.heap.size w)
  clear h1 h2 h3 hv
  have HK := Lib.hid hk; clear hk
  have HR := Lib.hid hr; clear hr
  have HF := Lib.hid hf; clear hf
  go_enter Tryz.func21, Tryz.ntmps21
  go_wp2_with (first | (with_reducible refine ((HK.out).mono ?_); rintro e w' ⟨rfl, hb⟩; replace HB := Lib.hid (bch' HB.out hb); clear hb) | (with_reducible refine ((HF.out _).mono ?_); rintro e w' ⟨rfl, hb⟩; replace HB := Lib.hid (bch' HB.out hb); clear hb) | (with_reducible refine ((HR.out _).mono ?_); rintro e w' ⟨rfl, hb⟩; replace HB := Lib.hid (bch' HB.out hb); clear hb))
  go_ret
  exact ⟨rfl, HB.out⟩

theorem law27_right_no (l : List (Int × Int)) (v : Value) (x : Txt) (w : World) (hv : PtsAt w v l) (hx : x.length ≤ 9223372036854775807) (h : ¬ (wvE l = 0 ∧ x.length ≤ 120 ∧ ratCheck x = 0)) :
    Calls Tryz.prog 21 #[v, .string ⟨x.toArray⟩] w fun e w' => e = .returned (.bool false) ∧ Below w.heap.size w w' := by
  have hk := r27_check_any l v w hv
  have hf := fun W => r2_few x W
  have HB := Lib.hid (Below.refl w.heap.size w)
  by_cases h1 : wvE l = 0
  · rw [h1] at hk
    by_cases h2 : x.length ≤ 120
    · have h3 : ¬ ratCheck x = 0 := fun e => h ⟨h1, h2, e⟩
      have hr := fun W => r2_check x W (by omega)
      rw [decide_eq_true h2] at hf
      have hne : ((ratCheck x : Int) == 0) = false := by simpa using h3
      clear h1 h2 h3 h hv
      generalize ratCheck x = m at *
      have HK := Lib.hid hk; clear hk
      have HR := Lib.hid hr; clear hr
      have HF := Lib.hid hf; clear hf
      go_enter Tryz.func21, Tryz.ntmps21
      go_wp2_with (first | (with_reducible refine ((HK.out).mono ?_); rintro e w' ⟨rfl, hb⟩; replace HB := Lib.hid (bch' HB.out hb); clear hb) | (with_reducible refine ((HF.out _).mono ?_); rintro e w' ⟨rfl, hb⟩; replace HB := Lib.hid (bch' HB.out hb); clear hb) | (with_reducible refine ((HR.out _).mono ?_); rintro e w' ⟨rfl, hb⟩; replace HB := Lib.hid (bch' HB.out hb); clear hb))
      go_ret
      exact ⟨rfl, HB.out⟩
    · rw [decide_eq_false h2] at hf
      clear h1 h2 h hv
      have HK := Lib.hid hk; clear hk
      have HF := Lib.hid hf; clear hf
      go_enter Tryz.func21, Tryz.ntmps21
      go_wp2_with (first | (with_reducible refine ((HK.out).mono ?_); rintro e w' ⟨rfl, hb⟩; replace HB := Lib.hid (bch' HB.out hb); clear hb) | (with_reducible refine ((HF.out _).mono ?_); rintro e w' ⟨rfl, hb⟩; replace HB := Lib.hid (bch' HB.out hb); clear hb))
      go_ret
      exact ⟨rfl, HB.out⟩
  · have hne : ((wvE l : Int) == 0) = false := by simpa using h1
    clear h1 h hv
    generalize wvE l = m at *
    have HK := Lib.hid hk; clear hk
    have HF := Lib.hid hf; clear hf
    go_enter Tryz.func21, Tryz.ntmps21
    go_wp2_with (first | (with_reducible refine ((HK.out).mono ?_); rintro e w' ⟨rfl, hb⟩; replace HB := Lib.hid (bch' HB.out hb); clear hb))
    go_ret
    exact ⟨rfl, HB.out⟩
end Go.Proofs.YtjfhebpfnegcjaaGreatDoor
