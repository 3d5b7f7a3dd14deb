/-
  Waves: places. Waves: Mean.
-/
import Derived.Test.YtbamcfhmkohbmaaGreatDoorWp
import Derived.Test.YtbamcfhmkohbmaaGreatDoorWc
import Derived.Test.YtbamcfhmkohbmaaGreatDoorWv1
import Derived.Test.YtbamcfhmkohbmaaGreatDoorWv2
import Derived.Test.YtbamcfhmkohbmaaGreatDoorTail2
set_option linter.unusedVariables false
set_option linter.unusedSimpArgs false
namespace Lum
open Go Go.RowKit Go.Shelf
open Go.Lib (decDigits itoa)
theorem fits_k : Fits 4 ((1000 : Int) : Rat) := by unfold Fits; decide +kernel
theorem show_k : showR ((1000 : Int) : Rat) = [49, 48, 48, 48] := by decide +kernel
theorem k_ne : ((1000 : Int) : Rat) ≠ 0 := by decide +kernel
theorem flr_dlk {x : Rat} {k : Nat} (h : Fits k x) : dl (flr x) ≤ k := by
  have f := h.1
  have hp := x.den_pos
  refine Nat.le_trans (dl_mono ?_) f
  rw [flr, Int.fdiv_eq_ediv_of_nonneg _ (by omega)]
  rcases (show x.num < 0 ∨ 0 ≤ x.num by omega) with h | h
  · have h1 : x.num ≤ x.num / (x.den : Int) := (Int.le_ediv_iff_mul_le (by omega)).2 (by
      have := Int.mul_le_mul_of_nonpos_left (show x.num ≤ 0 by omega) (show (1 : Int) ≤ x.den by omega)
      omega)
    have h2 := Int.ediv_neg_of_neg_of_pos h (show (0 : Int) < x.den by omega)
    omega
  · have h1 := Int.ediv_le_self (x.den : Int) h
    have h2 := Int.ediv_nonneg h (show (0 : Int) ≤ x.den by omega)
    omega
theorem floor_gen {k : Nat} {x : Rat} (hx : Fits k x) (hk : k ≤ 4096) : floorT (showR x) = (showR ((flr x : Int) : Rat), 0) := by
  unfold floorT
  rw [check_gen hx hk, valR_showR, showR_int]
  rfl
theorem fits_flr {k : Nat} {x : Rat} (hx : Fits k x) (h1 : 1 ≤ k) : Fits k ((flr x : Int) : Rat) := fits_int _ _ h1 (flr_dlk hx)
theorem place_flr (x : Rat) : place x = x - ((flr (x / ((1000 : Int) : Rat)) : Int) : Rat) * ((1000 : Int) : Rat) := by
  unfold place
  rw [flr_floor, show ((1000 : Int) : Rat) = 1000 from rfl]
  grind
theorem fits_place {x : Rat} (hx : Fits 400 x) : Fits 900 (place x) := by
  rw [place_flr]
  exact (fits_sub2 hx (fits_mul2 (fits_flr (fits_div2 hx fits_k k_ne) (by omega)) fits_k)).mono (by omega)
end Lum
namespace Go.Proofs.YtbamcfhmkohbmaaGreatDoor
open Go.RowKit Go.Shelf Lum
open Go.Lib (decDigits itoa)
attribute [local go_sem] bs_get bs_extract_end bs_extract_from bs_extract bs_append

set_option maxRecDepth 100000 in
set_option maxHeartbeats 4000000 in
theorem own_turn (x : Rat) (w : World) (hx : Fits 400 x) (env : Env w) :
    Calls Tryz.prog 66 #[.string ⟨(showR x).toArray⟩] w fun e w' => e = .returned (.tuple #[.string ⟨(showR (place x)).toArray⟩, .int .i64 0]) ∧ Below w.heap.size w w' := by
  have hy := fits_div2 hx fits_k k_ne
  have hn := fits_flr hy (by omega)
  have hm := fits_mul2 hn fits_k
  have c1 := fun W (e : Env W) => own_rdiv (showR x) (showR ((1000 : Int) : Rat)) W e (len_ok hx (by omega)) (len_ok fits_k (by omega))
  rw [div_gen hx fits_k (by omega) k_ne, show_k] at c1
  have c2 := fun W (e : Env W) => own_floor (showR (x / ((1000 : Int) : Rat))) W (len_ok hy (by omega)) e
  rw [floor_gen hy (by omega)] at c2
  have c3 := fun W (e : Env W) => own_rmul (showR ((flr (x / ((1000 : Int) : Rat)) : Int) : Rat)) (showR ((1000 : Int) : Rat)) W e (len_ok hn (by omega)) (len_ok fits_k (by omega))
  rw [mul_gen hn fits_k (by omega), show_k] at c3
  have c4 := fun W (e : Env W) => own_rsub (showR x) (showR (((flr (x / ((1000 : Int) : Rat)) : Int) : Rat) * ((1000 : Int) : Rat))) W e (len_ok hx (by omega)) (len_ok hm (by omega))
  rw [sub_gen hx hm (by omega), ← place_flr] at c4
  dsimp only at c1 c2 c3 c4
  generalize showR (x / ((1000 : Int) : Rat)) = t1 at *
  generalize showR (((flr (x / ((1000 : Int) : Rat)) : Int) : Rat) * ((1000 : Int) : Rat)) = t3 at *
  generalize showR ((flr (x / ((1000 : Int) : Rat)) : Int) : Rat) = t2 at *
  generalize showR (place x) = t4 at *
  generalize showR x = t0 at *
  clear hx hy hn hm
  have C1 := Lib.hid c1; clear c1
  have C2 := Lib.hid c2; clear c2
  have C3 := Lib.hid c3; clear c3
  have C4 := Lib.hid c4; clear c4
  have ENV := Lib.hid env; clear env
  have HB := Lib.hid (Below.refl w.heap.size w)
  go_enter Tryz.func66, Tryz.ntmps66
  go_wp2_with (first | (with_reducible refine ((C1.out _ (ENV.out.below HB.out)).mono ?_); rintro e w' ⟨rfl, hb⟩; replace HB := Lib.hid (bch' HB.out hb); clear hb) | (with_reducible refine ((C2.out _ (ENV.out.below HB.out)).mono ?_); rintro e w' ⟨rfl, hb⟩; replace HB := Lib.hid (bch' HB.out hb); clear hb) | (with_reducible refine ((C3.out _ (ENV.out.below HB.out)).mono ?_); rintro e w' ⟨rfl, hb⟩; replace HB := Lib.hid (bch' HB.out hb); clear hb) | (with_reducible refine ((C4.out _ (ENV.out.below HB.out)).mono ?_); rintro e w' ⟨rfl, hb⟩; replace HB := Lib.hid (bch' HB.out hb); clear hb))
  go_ret2
  exact ⟨rfl, HB.out⟩

set_option maxRecDepth 100000 in
set_option maxHeartbeats 4000000 in
theorem r27_place (x : Rat) (w : World) (hx : Fits 400 x) :
    Calls Tryz.prog 209 #[.string ⟨(showR x).toArray⟩] w fun e w' => e = .returned (.string ⟨(showR (place x)).toArray⟩) ∧ Below w.heap.size w w' := by
  have hy := fits_div2 hx fits_k k_ne
  have hn := fits_flr hy (by omega)
  have hm := fits_mul2 hn fits_k
  have c1 := fun W => r2_by x ((1000 : Int) : Rat) W (hx.mono (by omega)) (fits_k.mono (by omega)) k_ne
  have c2 := fun W => r2_down (x / ((1000 : Int) : Rat)) W (hy.mono (by omega))
  have c3 := fun W => r2_times ((flr (x / ((1000 : Int) : Rat)) : Int) : Rat) ((1000 : Int) : Rat) W (hn.mono (by omega)) (fits_k.mono (by omega))
  have c4 := fun W => r2_minus x (((flr (x / ((1000 : Int) : Rat)) : Int) : Rat) * ((1000 : Int) : Rat)) W (hx.mono (by omega)) (hm.mono (by omega))
  rw [← place_flr] at c4
  rw [show_k] at c1 c3
  rw [← showR_int] at c2
  generalize showR (x / ((1000 : Int) : Rat)) = t1 at *
  generalize showR (((flr (x / ((1000 : Int) : Rat)) : Int) : Rat) * ((1000 : Int) : Rat)) = t3 at *
  generalize showR ((flr (x / ((1000 : Int) : Rat)) : Int) : Rat) = t2 at *
  generalize showR (place x) = t4 at *
  generalize showR x = t0 at *
  clear hx hy hn hm
  have C1 := Lib.hid c1; clear c1
  have C2 := Lib.hid c2; clear c2
  have C3 := Lib.hid c3; clear c3
  have C4 := Lib.hid c4; clear c4
  have HB := Lib.hid (Below.refl w.heap.size w)
  go_enter Tryz.func209, Tryz.ntmps209
  go_wp2_with (first | (with_reducible refine ((C1.out _).mono ?_); rintro e w' ⟨rfl, hb⟩; replace HB := Lib.hid (bch' HB.out hb); clear hb) | (with_reducible refine ((C2.out _).mono ?_); rintro e w' ⟨rfl, hb⟩; replace HB := Lib.hid (bch' HB.out hb); clear hb) | (with_reducible refine ((C3.out _).mono ?_); rintro e w' ⟨rfl, hb⟩; replace HB := Lib.hid (bch' HB.out hb); clear hb) | (with_reducible refine ((C4.out _).mono ?_); rintro e w' ⟨rfl, hb⟩; replace HB := Lib.hid (bch' HB.out hb); clear hb))
  go_ret
  exact ⟨rfl, HB.out⟩
end Go.Proofs.YtbamcfhmkohbmaaGreatDoor
namespace Lum
open Go Go.RowKit Go.Shelf
open Go.Lib (decDigits itoa)
/-- What Mean gives. -/
def meT (l : List (Int × Int)) : Txt × Int := if wvE l ≠ 0 then ([], wvE l) else (showR (meanW l), 0)
def segA (l : List (Int × Int)) (i : Nat) : Int := (pX l (i + 1) - pX l i) * (pY l i + pY l (i + 1))
def sumA (l : List (Int × Int)) (pre : List (Fin (l.length - 1))) : Int := (pre.map fun i => segA l i.1).sum
theorem sumA_snoc (l : List (Int × Int)) (pre : List (Fin (l.length - 1))) (x : Fin (l.length - 1)) : sumA l (pre ++ [x]) = sumA l pre + segA l x.1 := by simp [sumA]
theorem segA_bound {l : List (Int × Int)} (wv : Wv l) {i : Nat} (hi : i + 1 < l.length) : -2000000 ≤ segA l i ∧ segA l i ≤ 2000000 := by
  have h1 := wv.range (show i < l.length by omega)
  have h2 := wv.range hi
  have h3 := wv.h i (by omega)
  have h4 := wv.h (i + 1) hi
  have h5 := wv.s i hi
  unfold segA
  have m1 : (pX l (i + 1) - pX l i) * (pY l i + pY l (i + 1)) ≤ (pX l (i + 1) - pX l i) * 2000 := Int.mul_le_mul_of_nonneg_left (by omega) (by omega)
  have m2 : (pX l (i + 1) - pX l i) * (-2000) ≤ (pX l (i + 1) - pX l i) * (pY l i + pY l (i + 1)) := Int.mul_le_mul_of_nonneg_left (by omega) (by omega)
  omega
theorem sumA_bound {l : List (Int × Int)} (wv : Wv l) : ∀ pre : List (Fin (l.length - 1)), -(2000000 * (pre.length : Int)) ≤ sumA l pre ∧ sumA l pre ≤ 2000000 * (pre.length : Int)
  | [] => by simp [sumA]
  | x :: r => by
    have h := sumA_bound wv r
    have hs := segA_bound wv (i := x.1) (by have := x.2; omega)
    have e : sumA l (x :: r) = segA l x.1 + sumA l r := by simp [sumA]
    rw [e, List.length_cons]
    omega
theorem sumA_up {l : List (Int × Int)} : ∀ k, k ≤ l.length - 1 → 1 ≤ l.length → sumA l (upF (l.length - 1) k) = areaL (l.take (k + 1))
  | 0, _, h1 => by
    rw [upF_zero]
    cases l with
    | nil => rfl
    | cons a r => rfl
  | k + 1, h, h1 => by
    rw [upF_succ _ _ (by omega), sumA_snoc, sumA_up k (by omega) h1, areaL_take (l := l) (i := k + 1) (by omega) (by omega)]
    unfold segA
    rw [show k + 1 - 1 = k by omega, Int.add_comm (pY l k)]
theorem keepsFrom_below {B : Nat} {W W' : World} (hb : Below W.heap.size W W') : KeepsFrom B W W' := ⟨hb.size, fun i o _ hi _ => by rw [hb.block i (Array.getElem?_eq_some_iff.1 hi).1]; exact hi⟩
theorem ownFrom_size {β : Type} {B n : Nat} : OwnFrom B (fun (_ : β) W => n ≤ W.heap.size) := fun _ _ _ _ hs hg _ => Nat.le_trans hs hg.size
theorem partT_area (l : List (Int × Int)) : partT (areaL l) 2000 = (showR (meanW l), 0) := by unfold partT meanW; rw [if_neg (by decide)]
theorem sumA_all {l : List (Int × Int)} (h1 : 1 ≤ l.length) : sumA l (upF (l.length - 1) (l.length - 1)) = areaL l := by
  rw [sumA_up _ (Nat.le_refl _) h1, show l.length - 1 + 1 = l.length by omega, List.take_length]
end Lum
namespace Go.Proofs.YtbamcfhmkohbmaaGreatDoor
open Go.RowKit Go.Shelf Lum
open Go.Lib (decDigits itoa)
attribute [local go_sem] Oper.semAt_some bs_get bs_extract_end bs_extract_from bs_extract bs_append

set_option maxRecDepth 100000 in
set_option maxHeartbeats 4000000 in
theorem own_mean_ok (l : List (Int × Int)) (v : Value) (w : World) (hv : PtsAt w v l) (hn : l.length ≤ 1000000000) (hz : wvE l = 0) (env : Env w) :
    Calls Tryz.prog 18 #[v] w fun e w' => e = .returned (.tuple #[.string ⟨(showR (meanW l)).toArray⟩, .int .i64 0]) ∧ Below w.heap.size w w' := by
  have hk := own_wcheck l v w hv hn
  rw [hz] at hk
  have wv := wvE_zero hz
  clear hz
  have hlo := wv.lo
  have hhi := wv.hi
  have HV := Lib.hid hv
  obtain ⟨p, c, rfl, hv2⟩ := hv
  obtain ⟨b, o, rfl, hb, -⟩ := hv2 (fun h => by subst h; simp at hlo)
  clear hv2
  have HK := Lib.hid hk; clear hk
  have ENV := Lib.hid env; clear env
  refine (callsIn_wide (n := 5)).1 ?_
  refine callsIn_of_wp_marks Tryz.func18 rfl trivial ?_ rfl
  simp only [Tryz.ntmps18, List.size_toArray, List.length_cons, List.length_nil, Nat.reduceAdd, Nat.reduceSub, Array.replicate_succ, Array.replicate_zero, List.push_toArray, List.append_toArray, List.nil_append, List.cons_append]
  gi_wp2_with (first | (refine ⟨trivial, ?_⟩; gi_at_call 64; refine (callsIn_wide.2 (HK.out)).mono ?_; rintro e w1 ⟨rfl, hb1⟩) | (refine ⟨trivial, ?_⟩; gi_at_call 67; refine (pairs_in Fence.wide 4 trivial rfl _ _ _ _).mono ?_; rintro e w' ⟨rfl, rfl⟩))
  have wI := Blk.new w1 3 #[.int .i64 0]
  have wN := Boxed.new (w1.alloc (.cells #[.int .i64 0] 3)) 22 (.slice (some ⟨b, o, none⟩) l.length c)
  rw [World.size_alloc] at wN
  have hs1 : w.heap.size ≤ w1.heap.size := hb1.size
  have hB0 : Below w.heap.size w ((w1.alloc (.cells #[.int .i64 0] 3)).alloc (.cells #[.slice (some ⟨b, o, none⟩) l.length c] 22)) := (hb1.alloc (by omega) _).alloc (by simp; omega) _
  obtain ⟨W0, hW0⟩ : ∃ W0, W0 = (w1.alloc (.cells #[.int .i64 0] 3)).alloc (.cells #[.slice (some ⟨b, o, none⟩) l.length c] 22) := ⟨_, rfl⟩
  have wI0 : Blk W0 w1.heap.size 3 #[.int .i64 0] := by rw [hW0]; exact wI.alloc _
  rw [← hW0] at wN hB0 ⊢
  have hsz : W0.heap.size = w1.heap.size + 2 := by rw [hW0]; simp
  clear hW0 wI
  have hp := fun W (e : Env W) => own_part (areaL l) 2000 W (by have := area_bound wv l.length (by omega) (Nat.le_refl _); rw [List.take_length, wv.x1] at this; omega) (by have := area_bound wv l.length (by omega) (Nat.le_refl _); rw [List.take_length, wv.x1] at this; omega) (by omega) (by omega) e
  rw [partT_area] at hp
  dsimp only at hp
  have HP := Lib.hid hp; clear hp
  refine wpIn_rangeFunc_ownH (n := 5) rfl (by omega) (Kp := KeepB w.heap.size (w1.heap.size + 1)) (gf := 140) (lb := #[.pointer (some ⟨w1.heap.size + 1, 0, none⟩)]) rfl trivial (enters_of Tryz.func140 (by kernel_rfl) rfl)
    (pairs_stops Fence.wide 4 trivial rfl (by omega) (w1.heap.size + 1) w.heap.size _ l (by omega) (fun h => by subst h; simp at hlo) W0 (by omega) wN w HV.out rfl hB0) KeepB.t (KeepB.b (by omega) (by omega)) (Below.refl _ _) (fun _ => rfl)
    (fun pre W => Blk W w1.heap.size 3 #[.int .i64 (sumA l pre)] ∧ Below w.heap.size w W ∧ W0.heap.size ≤ W.heap.size)
    (fun _ _ _ => False)
    (OwnFrom.and (Own.from (blk_own _ _ (fun pre => #[.int .i64 (sumA l pre)])) _) (OwnFrom.and (ownFrom_below (Nat.le_refl _) (by omega)) ownFrom_size))
    (fun _ _ _ _ _ hs _ _ => hs)
    ⟨wI0, hB0, Nat.le_refl _⟩
    (fun x a' W => ∃ A B, w1.heap.size + 1 < A ∧ w1.heap.size + 1 < B ∧ Blk W A 33 #[.int .i64 (pX l x.1), .int .i64 (pY l x.1)] ∧ Blk W B 33 #[.int .i64 (pX l (x.1 + 1)), .int .i64 (pY l (x.1 + 1))] ∧
      a' = { tmps := #[.slice (some ⟨b, o, none⟩) l.length c, undef, .string ⟨#[]⟩, .int .i64 0, .int .i64 0, .pointer (some ⟨w1.heap.size, 0, none⟩), .pointer (some ⟨A, 0, none⟩), .pointer (some ⟨B, 0, none⟩), .slice (some ⟨b, o, none⟩) l.length c, .int .i64 0, .int .i64 0, .bool false, undef, .slice (some ⟨b, o, none⟩) l.length c,
        .func (.func 140) #[] #[.pointer (some ⟨w1.heap.size + 1, 0, none⟩)], ptV l x.1, ptV l (x.1 + 1), undef, undef, undef, undef, undef, undef, undef, undef, undef, undef, undef, undef, undef, undef, undef, undef, undef], defers := [] })
    (fun x a' => Own.from (fun s X Y row ⟨A, B, h1, h2, h3, h4, h5⟩ hg hr => ⟨A, B, h1, h2, blk_own _ _ (fun _ : Unit => _) () X Y row h3 hg hr, blk_own _ _ (fun _ : Unit => _) () X Y row h4 hg hr, h5⟩) _) ?assign ?body ?done ?stop
  case assign =>
    rintro l' pre x W K ⟨bI, hB, hz⟩ hK
    have hs := hB.size
    have hlt := bI.lt
    unfold ptV
    gi_wp2
    exact hK _ _ (((KeepsOthers.alloc _ _).trans (KeepsOthers.alloc _ _)).from _) (((KeepB.refl _ _ W).alloc _ (by omega) (by omega)).alloc _ (by simp; omega) (by simp; omega)) ⟨(bI.alloc _).alloc _, (hB.alloc (by omega) _).alloc (by simp; omega) _, by simp; omega⟩ ⟨W.heap.size, W.heap.size + 1, by omega, by omega, (Blk.new W _ _).alloc _, by simpa using Blk.new (W.alloc _) _ _, rfl⟩
  case body =>
    rintro l' pre x a' W hl ⟨r, hr⟩ ⟨bI, hB, hz⟩ ⟨A, B, hA, hBB, bA, bB, rfl⟩ hlt
    have hx := x.2
    obtain ⟨i0, i1⟩ := bI.c1
    obtain ⟨a0, a1, a2, a3⟩ := bA.c2
    obtain ⟨b0, b1, b2, b3⟩ := bB.c2
    have hsum := sumA_bound wv pre
    have hseg := segA_bound wv (i := x.1) (by omega)
    have hsn := sumA_snoc l pre x
    have HSN := Lib.hid hsn; clear hsn
    have r1 := wv.range (show x.1 < l.length by omega)
    have r2 := wv.range (show x.1 + 1 < l.length by omega)
    have r3 := wv.h x.1 (by omega)
    have r4 := wv.h (x.1 + 1) (by omega)
    have e1 : IntKind.i64.wrap (pX l (x.1 + 1) - pX l x.1) = pX l (x.1 + 1) - pX l x.1 := IntWalk.i64_in _ (by omega)
    have e2 : IntKind.i64.wrap (pY l x.1 + pY l (x.1 + 1)) = pY l x.1 + pY l (x.1 + 1) := IntWalk.i64_in _ (by omega)
    have e3 : IntKind.i64.wrap ((pX l (x.1 + 1) - pX l x.1) * (pY l x.1 + pY l (x.1 + 1))) = segA l x.1 := IntWalk.i64_in _ (by unfold segA at hseg; omega)
    have e4 : IntKind.i64.wrap (sumA l pre + segA l x.1) = sumA l pre + segA l x.1 := IntWalk.i64_in _ (by omega)
    clear hsum hseg
    generalize pX l (x.1 + 1) = X1 at *
    generalize pX l x.1 = X0 at *
    generalize pY l (x.1 + 1) = Y1 at *
    generalize pY l x.1 = Y0 at *
    have BI := Lib.hid bI; clear bI
    unfold ptV
    gi_wp2
    exact ⟨(KeepsOthers.setCell _ _ _).from _, (KeepB.refl _ _ W).setCell (p := ⟨w1.heap.size, 0, none⟩) (by omega) (by simp) _, by rw [HSN.out]; exact BI.out.set_ 0 _, hB.setCell (p := ⟨w1.heap.size, 0, none⟩) (by omega) _, by simpa using hz⟩
  case done =>
    rintro D ys W hD rfl ⟨bI, hB, hz⟩ hK
    rw [sumA_all (by omega)] at bI
    obtain ⟨i0, i1⟩ := bI.c1
    have HBW := Lib.hid hB
    generalize areaL l = ar at *
    gi_wp2_with (refine ⟨trivial, ?_⟩; gi_at_call 73; refine (callsIn_wide.2 (HP.out _ (ENV.out.below HBW.out))).mono ?_; rintro e w3 ⟨rfl, hb3⟩)
    have hK3 := (hb3.block D (Array.getElem?_eq_some_iff.1 hK).1).trans hK
    refine ⟨by simp, .inl ⟨_, _, rfl, run_takeDeferred hK3, ?_⟩⟩
    refine ⟨.tuple #[.string ⟨(showR (meanW l)).toArray⟩, .int .i64 0], by simp [results, Tryz.f18, go_sem], rfl, ?_⟩
    exact (bch' HBW.out hb3).trans (belowK_b (w := w) (Nat.le_refl _) w3 D _ _ (by omega) hK3 rfl rfl)
  case stop =>
    rintro D cd pre W _ _ h _
    exact h.elim
end Go.Proofs.YtbamcfhmkohbmaaGreatDoor
