/-
  slices.Reverse, Equal, Contains at points. Waves: Extremes, Mean, Tidy with errors; Mirror; right.
-/
import Derived.Test.YtbamcfhmkohbmaaGreatDoorShelfP
import Derived.Shelf.SlicesQ.Reverse
import Derived.Shelf.SlicesQ.Equal
import Derived.Test.YtbamcfhmkohbmaaGreatDoorWv9
import Derived.Lib.OwnBridge
import Derived.Laws.StructEq
import Derived.Test.YtbamcfhmkohbmaaGreatDoorWv10
import Derived.Test.YtbamcfhmkohbmaaGreatDoorWv5
set_option linter.unusedVariables false
set_option linter.unusedSimpArgs false
namespace Lum
open Go Go.RowKit Go.Shelf
open Go.Lib (decDigits itoa)
def encP (x : Int × Int) : List Value := [.int .i64 x.1, .int .i64 x.2]
theorem encP_len : ∀ x, (encP x).length = 2 := fun _ => rfl
theorem encP_one : ∀ x, ∀ v ∈ encP x, v.oneCell' = true := fun x v hv => by simp [encP] at hv; rcases hv with rfl | rfl <;> rfl
theorem arr_at {l : List (Int × Int)} {i : Nat} (h : i < l.length) : l.toArray[i]! = (pX l i, pY l i) := by
  rw [getElem!_pos l.toArray i (by simpa using h)]
  simpa using pt_at h
theorem list_at {l : List (Int × Int)} {i : Nat} (h : i < l.length) : l[i]! = (pX l i, pY l i) := by
  rw [getElem!_pos l i h]; exact pt_at h
theorem holdsK_pts {W : World} {g o : Nat} {l : List (Int × Int)} (h : PtC W g o l) (hf : ∀ j, j < l.length * 2 → W.frozen? ⟨g, o + j, none⟩ = false) : Go.Sort.HoldsK encP 2 W g o l.toArray := by
  intro j hj
  have hj2 : j < l.length * 2 := by simpa using hj
  refine ⟨?_, hf j hj2⟩
  rw [Go.Sort.get_flatK encP 2 l.toArray j (by simpa using hj2), arr_at (by omega)]
  obtain ⟨h1, h2⟩ := h (j / 2) (by omega)
  rcases (show j % 2 = 0 ∨ j % 2 = 1 by omega) with hm | hm
  · rw [hm, show o + j = o + j / 2 * 2 by omega]; exact h1
  · rw [hm, show o + j = o + j / 2 * 2 + 1 by omega]; exact h2
theorem pts_of_holdsK {W : World} {g o : Nat} {d : Array (Int × Int)} {l : List (Int × Int)} (hd : d = l.toArray) (h : Go.Sort.HoldsK encP 2 W g o d) : PtC W g o l := by
  subst hd
  intro i hi
  have c0 := (Go.Sort.HoldsK.cell h (i := i) (c := 0) (by simpa using hi) (by omega)).1
  have c1 := (Go.Sort.HoldsK.cell h (i := i) (c := 1) (by simpa using hi) (by omega)).1
  rw [arr_at hi] at c0 c1
  exact ⟨by simpa [encP] using c0, c1⟩
theorem PtC.elems {W : World} {b o : Nat} {l : List (Int × Int)} (h : PtC W b o l) : ∀ j, j < l.length → ∀ i v, (encP l[j]!)[i]? = some v → W.cell? ⟨b, o + j * 2 + i, none⟩ = some v := by
  intro j hj i v hv
  rw [list_at hj] at hv
  obtain ⟨h1, h2⟩ := h j hj
  match i, hv with
  | 0, hv => simp [encP] at hv; subst hv; exact h1
  | 1, hv => simp [encP] at hv; subst hv; exact h2
  | i + 2, hv => simp [encP] at hv
theorem OwnP.open2 {base e : Nat} {W : World} {p : Option Addr} {c : Nat} {l : List (Int × Int)} (h : OwnP base e W p c l) (hn : l ≠ []) : ∃ g, p = some ⟨g, 0, none⟩ ∧ base ≤ g ∧ g < W.heap.size ∧ l.length ≤ c ∧ PtC W g 0 l ∧ ∀ j, W.frozen? ⟨g, 0 + j, none⟩ = false := by
  obtain ⟨g, rfl, h1, h2, h3, h4⟩ := h.open_ hn
  refine ⟨g, rfl, h1, h2, h3, h4, fun j => ?_⟩
  rcases h.2 with ⟨h5, h6⟩ | ⟨g', cap, cur, hv, hg, hh, _⟩
  · exact absurd (List.length_eq_zero_iff.1 h6) hn
  · injection hv with hv1 hv2 hv3
    injection hv1 with hv1
    injection hv1 with hv1
    subst hv1
    simp [World.frozen?, hh]
theorem allEq_dec : ∀ (xs ys : List (Int × Int)), Lib.allEq (fun x y : Int × Int => x.1 == y.1 && x.2 == y.2) xs ys = decide (xs = ys)
  | [], [] => by simp [Lib.allEq]
  | [], _ :: _ => by simp [Lib.allEq]
  | _ :: _, [] => by simp [Lib.allEq]
  | x :: xs, y :: ys => by
    rw [Lib.allEq, allEq_dec xs ys]
    obtain ⟨a, b⟩ := x; obtain ⟨c, d⟩ := y
    by_cases h1 : a = c <;> by_cases h2 : b = d <;> by_cases h3 : xs = ys <;> simp [h1, h2, h3]
end Lum
namespace Go.Proofs.YtbamcfhmkohbmaaGreatDoor
open Go.RowKit Go.Shelf Lum Go.Lib
attribute [local go_sem] bs_get bs_extract_end bs_extract_from bs_extract bs_append

theorem eqPt : EqlAt Tryz.prog 33 (fun x => .agg (encP x).toArray) (fun x y : Int × Int => x.1 == y.1 && x.2 == y.2) := by
  refine ⟨fun x y w => ?_, GuardAt.agg _ (by kernel_rfl)⟩
  have u3 := Tryz.underlying3
  have a3 := Tryz.isAgg3
  have z3 := Tryz.sizeOf3
  have hS : Tryz.prog.underlying 33 = some (.struct (Tryz.prog.fieldsOf 33)) := by kernel_rfl
  have hp : Tryz.prog.stoodInHeld 33 = false := by kernel_rfl
  simp only [encP]
  rw [run_eql_struct, show (10000 : Nat) = 9999 + 1 from rfl, run_equalIn_agg w 9999 33 _ _ hS hp]
  simp only [Program.fieldsOf, Tryz.underlying33]
  go_simp
  by_cases h1 : x.fst = y.fst <;> by_cases h2 : x.snd = y.snd <;> simp [h1, h2]

theorem nePt : NeqAt Tryz.prog 33 (fun x => .agg (encP x).toArray) (fun x y : Int × Int => x.1 == y.1 && x.2 == y.2) := by
  refine ⟨fun x y w => ?_, GuardAt.agg _ (by kernel_rfl)⟩
  exact neq_pt w x.1 x.2 y.1 y.2

theorem pt_contains (l : List (Int × Int)) (v : Value) (x y : Int) (w : World) (hv : PtsAt w v l) (hn : l.length ≤ 1000000000) (hne : l ≠ []) :
    Calls Tryz.prog 19 #[v, .agg #[.int .i64 x, .int .i64 y]] w fun e w' => e = .returned (.bool (decide ((x, y) ∈ l))) ∧ Below w.heap.size w w' := by
  obtain ⟨p, c, rfl, hv2⟩ := hv
  obtain ⟨b, o, rfl, hb, k⟩ := hv2 hne
  replace k : PtC w b o l := k
  refine (AnyQ.slices_Contains Tryz.containsPt 2 Tryz.isAgg33 Tryz.sizeOf33 encP encP_len _ eqPt b o l.length c l (x, y) w (Nat.le_refl _) (by omega) k.elems).mono fun e w' ⟨he, hb⟩ => ⟨?_, hb⟩
  rw [he, List.take_length]
  congr 2
  rw [Bool.eq_iff_iff, List.any_eq_true, decide_eq_true_iff]
  constructor
  · rintro ⟨q, hq, h⟩
    simp at h
    obtain ⟨a, b⟩ := q
    obtain ⟨rfl, rfl⟩ := h
    exact hq
  · intro h; exact ⟨(x, y), h, by simp⟩
end Go.Proofs.YtbamcfhmkohbmaaGreatDoor
namespace Lum
open Go Go.RowKit Go.Shelf
open Go.Lib (decDigits itoa)
def exT (l : List (Int × Int)) : Int × Int × Int := if wvE l ≠ 0 then (0, 0, wvE l) else (loF l l.length, hiF l l.length, 0)
theorem exT_ok {l : List (Int × Int)} (h : wvE l = 0) : exT l = (loF l l.length, hiF l l.length, 0) := by unfold exT; rw [if_neg (by simpa using h)]
theorem exT_no {l : List (Int × Int)} (h : ¬ wvE l = 0) : exT l = (0, 0, wvE l) := by unfold exT; rw [if_pos h]
theorem meT_ok {l : List (Int × Int)} (h : wvE l = 0) : meT l = (showR (meanW l), 0) := by unfold meT; rw [if_neg (by simpa using h)]
theorem meT_no {l : List (Int × Int)} (h : ¬ wvE l = 0) : meT l = ([], wvE l) := by unfold meT; rw [if_pos h]
end Lum
namespace Go.Proofs.YtbamcfhmkohbmaaGreatDoor
open Go.RowKit Go.Shelf Lum
open Go.Lib (decDigits itoa)
attribute [local go_sem] bs_get bs_extract_end bs_extract_from bs_extract bs_append

set_option maxRecDepth 100000 in
set_option maxHeartbeats 4000000 in
theorem own_mean (l : List (Int × Int)) (v : Value) (w : World) (hv : PtsAt w v l) (hn : l.length ≤ 1000000000) (env : Env w) :
    Calls Tryz.prog 18 #[v] w fun e w' => e = .returned (.tuple #[.string ⟨((meT l).1).toArray⟩, .int .i64 (meT l).2]) ∧ Below w.heap.size w w' := by
  by_cases hz : wvE l = 0
  · rw [meT_ok hz]
    exact own_mean_ok l v w hv hn hz env
  · rw [meT_no hz]
    dsimp only
    have hk := own_wcheck l v w hv hn
    have hne : ((wvE l : Int) != 0) = true := by simpa using hz
    clear hz
    obtain ⟨p, c, rfl, -⟩ := hv
    have HK := Lib.hid hk; clear hk
    generalize wvE l = m at *
    go_enter Tryz.func18, Tryz.ntmps18
    go_wp2_with ((with_reducible refine ((HK.out).mono ?_)); rintro e w' ⟨rfl, hb1⟩; have HB := Lib.hid hb1; clear hb1)
    go_ret2
    exact ⟨rfl, HB.out⟩

set_option maxRecDepth 100000 in
set_option maxHeartbeats 4000000 in
theorem own_tidy (l : List (Int × Int)) (v : Value) (w : World) (hv : PtsAt w v l) (hn : l.length ≤ 1000000000) :
    Calls Tryz.prog 16 #[v] w fun e w' => ∃ v', e = .returned (.tuple #[v', .int .i64 (wvE l)]) ∧ PtsAt w' v' (onlyR l (tidF l.length 1 l)) ∧ Below w.heap.size w w' := by
  by_cases hz : wvE l = 0
  · rw [onlyR_ok hz, hz]
    exact own_tidy_ok l v w hv hn hz
  · have h := own_changed 63 (fun p => p) l v w hv hn tidy_fun (enters_of Tryz.func63 (by kernel_rfl) rfl)
    rw [onlyR_no hz] at h ⊢
    simp only [List.length_nil] at h
    have H := Lib.hid h; clear h hz
    obtain ⟨p, c, rfl, -⟩ := hv
    generalize wvE l = m at *
    go_enter Tryz.func16, Tryz.ntmps16
    go_wp2_with ((with_reducible refine ((H.out).mono ?_)); rintro e w1 ⟨p1, c1, rfl, hO, hb1⟩; have HB := Lib.hid hb1; have HO := Lib.hid hO; clear hb1 hO)
    go_loopw [4, 6] (fun s i wr => s = .slice p1 0 c1 ∧ i = .int .i64 1 ∧ wr = w1) (fun _ i _ => 0)
    case atStart => exact ⟨rfl, rfl, rfl⟩
    case round =>
      obtain ⟨rfl, rfl, rfl⟩ := hrel
      go_wp2
      go_ret2
      exact ⟨_, rfl, HO.out.pts, HB.out⟩

set_option maxRecDepth 100000 in
set_option maxHeartbeats 4000000 in
theorem r27_check_any (l : List (Int × Int)) (v : Value) (w : World) (hv : PtsAt w v l) :
    Calls Tryz.prog 58 #[v] w fun e w' => e = .returned (.int .i64 (wvE l)) ∧ Below w.heap.size w w' := by
  by_cases hn : l.length ≤ 1000000000
  · exact r27_check l v w hv hn
  · rw [wvE_len (by omega)]
    obtain ⟨p, c, rfl, -⟩ := hv
    have h1 : ¬ l.length < 2 := by omega
    have h0 : 16 < l.length := by omega
    clear hn
    go_enter Tryz.func58, Tryz.ntmps58
    go_wp2
    go_ret
    exact ⟨rfl, Below.refl _ _⟩

set_option maxRecDepth 100000 in
set_option maxHeartbeats 4000000 in
theorem law27_right_ok (l : List (Int × Int)) (v : Value) (x : Txt) (w : World) (hv : PtsAt w v l) (hx : x.length ≤ 9223372036854775807) (h1 : wvE l = 0) (h2 : x.length ≤ 120) (h3 : ratCheck x = 0) :
    Calls Tryz.prog 14 #[v, .string ⟨x.toArray⟩] w fun e w' => e = .returned (.bool true) ∧ Below w.heap.size w w' := by
  have hk := r27_check_any l v w hv
  have hr := fun W => r2_check x W (by omega)
  have hf := fun W => r2_few x W
  rw [h1] at hk; rw [h3] at hr
  rw [decide_eq_true h2] at hf
  have HB := Lib.hid (Below.refl w.heap.size w)
  clear h1 h2 h3 hv
  have HK := Lib.hid hk; clear hk
  have HR := Lib.hid hr; clear hr
  have HF := Lib.hid hf; clear hf
  go_enter Tryz.func14, Tryz.ntmps14
  go_wp2_with (first | (with_reducible refine ((HK.out).mono ?_); rintro e w' ⟨rfl, hb⟩; replace HB := Lib.hid (bch' HB.out hb); clear hb) | (with_reducible refine ((HF.out _).mono ?_); rintro e w' ⟨rfl, hb⟩; replace HB := Lib.hid (bch' HB.out hb); clear hb) | (with_reducible refine ((HR.out _).mono ?_); rintro e w' ⟨rfl, hb⟩; replace HB := Lib.hid (bch' HB.out hb); clear hb))
  go_ret
  exact ⟨rfl, HB.out⟩

theorem law27_right_no (l : List (Int × Int)) (v : Value) (x : Txt) (w : World) (hv : PtsAt w v l) (hx : x.length ≤ 9223372036854775807) (h : ¬ (wvE l = 0 ∧ x.length ≤ 120 ∧ ratCheck x = 0)) :
    Calls Tryz.prog 14 #[v, .string ⟨x.toArray⟩] w fun e w' => e = .returned (.bool false) ∧ Below w.heap.size w w' := by
  have hk := r27_check_any l v w hv
  have hf := fun W => r2_few x W
  have HB := Lib.hid (Below.refl w.heap.size w)
  by_cases h1 : wvE l = 0
  · rw [h1] at hk
    by_cases h2 : x.length ≤ 120
    · have h3 : ¬ ratCheck x = 0 := fun e => h ⟨h1, h2, e⟩
      have hr := fun W => r2_check x W (by omega)
      rw [decide_eq_true h2] at hf
      have hne : ((ratCheck x : Int) == 0) = false := by simpa using h3
      clear h1 h2 h3 h hv
      generalize ratCheck x = m at *
      have HK := Lib.hid hk; clear hk
      have HR := Lib.hid hr; clear hr
      have HF := Lib.hid hf; clear hf
      go_enter Tryz.func14, Tryz.ntmps14
      go_wp2_with (first | (with_reducible refine ((HK.out).mono ?_); rintro e w' ⟨rfl, hb⟩; replace HB := Lib.hid (bch' HB.out hb); clear hb) | (with_reducible refine ((HF.out _).mono ?_); rintro e w' ⟨rfl, hb⟩; replace HB := Lib.hid (bch' HB.out hb); clear hb) | (with_reducible refine ((HR.out _).mono ?_); rintro e w' ⟨rfl, hb⟩; replace HB := Lib.hid (bch' HB.out hb); clear hb))
      go_ret
      exact ⟨rfl, HB.out⟩
    · rw [decide_eq_false h2] at hf
      clear h1 h2 h hv
      have HK := Lib.hid hk; clear hk
      have HF := Lib.hid hf; clear hf
      go_enter Tryz.func14, Tryz.ntmps14
      go_wp2_with (first | (with_reducible refine ((HK.out).mono ?_); rintro e w' ⟨rfl, hb⟩; replace HB := Lib.hid (bch' HB.out hb); clear hb) | (with_reducible refine ((HF.out _).mono ?_); rintro e w' ⟨rfl, hb⟩; replace HB := Lib.hid (bch' HB.out hb); clear hb))
      go_ret
      exact ⟨rfl, HB.out⟩
  · have hne : ((wvE l : Int) == 0) = false := by simpa using h1
    clear h1 h hv
    generalize wvE l = m at *
    have HK := Lib.hid hk; clear hk
    have HF := Lib.hid hf; clear hf
    go_enter Tryz.func14, Tryz.ntmps14
    go_wp2_with (first | (with_reducible refine ((HK.out).mono ?_); rintro e w' ⟨rfl, hb⟩; replace HB := Lib.hid (bch' HB.out hb); clear hb))
    go_ret
    exact ⟨rfl, HB.out⟩
end Go.Proofs.YtbamcfhmkohbmaaGreatDoor
