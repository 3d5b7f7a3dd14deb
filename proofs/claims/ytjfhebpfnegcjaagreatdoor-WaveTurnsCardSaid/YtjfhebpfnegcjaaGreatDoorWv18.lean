/-
  The law WaveRepeats: the walk.
-/
import Derived.Test.YtjfhebpfnegcjaaGreatDoorWv12
import Derived.Test.YtjfhebpfnegcjaaGreatDoorWf
set_option linter.unusedVariables false
set_option linter.unusedSimpArgs false
namespace Lum
open Go Go.RowKit Go.Shelf
open Go.Lib (decDigits itoa)
theorem hgt_add (l : List (Int × Int)) (x : Rat) (n : Int) : hgtW l (x + ((1000 * n : Int) : Rat)) = hgtW l x := by unfold hgtW; rw [place_add]
theorem fits_hgt {l : List (Int × Int)} {x : Rat} (w : Wv l) (hx : Fits 400 x) : Fits 1000 (hgtW l x) := by
  obtain ⟨b, c, d⟩ := kW_in w x
  rw [hgtW_seg]
  generalize kW l (place x) l.length 0 = j at *
  have s := w.s j b
  have r0 := w.range (show j < l.length by omega)
  have r1 := w.range b
  have y0 := w.h j (by omega)
  have y1 := w.h (j + 1) b
  have hne : ((pX l (j + 1) - pX l j : Int) : Rat) ≠ 0 := fun h => by have := Rat.intCast_inj.1 (h.trans (show (0 : Rat) = ((0 : Int) : Rat) from rfl)); omega
  exact (fits_mix2 (fits_i64 _ (by omega) (by omega)) (fits_i64 _ (by omega) (by omega)) (fits_div2 (fits_sub2 (fits_place hx) (fits_i64 (pX l j) (by omega) (by omega))) (fits_i64 _ (by omega) (by omega)) hne)).mono (by omega)
theorem sgn_ge {x y : Rat} (h : y ≤ x) : ¬ sgn x y < 0 := fun g => absurd ((sgn_lt x y).1 g) (Rat.not_lt.2 h)
theorem sgn_leq {x y : Rat} (h : x ≤ y) : ¬ 0 < sgn x y := fun g => absurd ((sgn_gt x y).1 g) (Rat.not_lt.2 h)
end Lum
namespace Go.Proofs.YtjfhebpfnegcjaaGreatDoor
open Go.RowKit Go.Shelf Lum
open Go.Lib (decDigits itoa)
attribute [local go_sem] bs_get bs_extract_end bs_extract_from bs_extract bs_append

set_option maxRecDepth 100000 in
set_option maxHeartbeats 8000000 in
theorem law_repeats (l : List (Int × Int)) (v : Value) (x : Txt) (n : Int) (w : World) (hv : PtsAt w v l) (hx : x.length ≤ 9223372036854775807) (n0 : -128 ≤ n) (n1 : n ≤ 127) (env : Env w) :
    Calls Tryz.prog 5 #[v, .string ⟨(x).toArray⟩, .int .i8 n] w fun e w' => e = .returned (.bool (true)) ∧ Below w.heap.size w w' := by
  have ENV := Lib.hid env; clear env
  have HB := Lib.hid (Below.refl w.heap.size w)
  have HV := Lib.hid hv
  have haw := fun W (e : Env W) => law27_awake W e
  have HAW := Lib.hid haw; clear haw
  by_cases hk : ¬ (wvE l = 0 ∧ x.length ≤ 120 ∧ ratCheck x = 0)
  · have hr := law27_right_no l v x w hv hx hk
    have HR := Lib.hid hr; clear hr hk
    obtain ⟨p, c, rfl, -⟩ := hv
    go_enter Tryz.func5, Tryz.ntmps5
    go_wp2_with (first | (with_reducible refine ((HR.out).mono ?_); rintro e w' ⟨rfl, hb⟩; replace HV := Lib.hid (PtsAt.below HV.out hb); replace HB := Lib.hid (bch' HB.out hb); clear hb) | (with_reducible refine ((HAW.out _ (ENV.out.below HB.out)).mono ?_); rintro e w' ⟨rfl, hb⟩; replace HB := Lib.hid (bch' HB.out hb); clear hb))
    go_ret
    exact ⟨rfl, HB.out⟩
  have hk2 := Decidable.not_not.1 hk
  clear hk
  obtain ⟨k1, k2, k3⟩ := hk2
  have hr := law27_right_ok l v x w hv hx k1 k2 k3
  have wv := wvE_zero k1
  obtain ⟨q, rfl, -⟩ := ratCheck_zero x k3
  have fq := fits_of_len k2
  have hhi := wv.hi
  have hlo := wv.lo
  have hl : l.length ≤ 1000000000 := by omega
  have h0 : 0 < l.length := by omega
  obtain ⟨p, c, rfl, hv2⟩ := hv
  obtain ⟨b, o, rfl, hb, hc⟩ := hv2 (fun h => by subst h; simp at hlo)
  replace hc : PtC w b o l := hc
  have HC := Lib.hid hc; clear hc hv2
  have hwr : IntKind.i64.wrap (1000 * n) = 1000 * n := IntWalk.i64_in _ (by omega)
  have a1 := fun W (e : Env W) (h : PtsAt W (.slice (some ⟨b, o, none⟩) l.length c) l) => own_at_ok l _ q W h hl k1 (fq.mono (by omega)) e
  have fn := fits_i64 (1000 * n) (by omega) (by omega)
  have fs := fits_add2 fq fn
  have w1 := fun W => r2_whole (1000 * n) W (by omega) (by omega)
  have s1 := fun W => r2_plus q ((1000 * n : Int) : Rat) W (fq.mono (by omega)) (fn.mono (by omega))
  rw [showR_int] at s1
  have a2 := fun W (e : Env W) (h : PtsAt W (.slice (some ⟨b, o, none⟩) l.length c) l) => own_at_ok l _ (q + ((1000 * n : Int) : Rat)) W h hl k1 (fs.mono (by omega)) e
  rw [hgt_add] at a2
  have a3 := fun W (h : PtsAt W (.slice (some ⟨b, o, none⟩) l.length c) l) => own_extremes_ok l _ W h hl k1
  have fH := fits_hgt wv (fq.mono (by omega))
  have c1 := fun W => r2_check (showR (hgtW l q)) W (len_ok fH (by omega))
  rw [check_gen fH (by omega)] at c1
  have rl := loF_range wv l.length (Nat.le_refl _)
  have rh := hiF_range wv l.length (Nat.le_refl _)
  have w2 := fun W => r2_whole (loF l l.length) W (by omega) (by omega)
  have w3 := fun W => r2_whole (hiF l l.length) W (by omega) (by omega)
  have fl := fits_i64 (loF l l.length) (by omega) (by omega)
  have fh := fits_i64 (hiF l l.length) (by omega) (by omega)
  have o1 := fun W => r2_order (hgtW l q) ((loF l l.length : Int) : Rat) W (fH.mono (by omega)) (fl.mono (by omega))
  have o2 := fun W => r2_order (hgtW l q) ((hiF l l.length : Int) : Rat) W (fH.mono (by omega)) (fh.mono (by omega))
  rw [showR_int] at o1 o2
  obtain ⟨g1, g2⟩ := hgt_between wv q (loF l l.length) (hiF l l.length) (fun i hi => loF_le l l.length i hi) (fun i hi => hiF_ge l l.length i hi)
  have z1 := sgn_ge g1
  have z2 := sgn_leq g2
  generalize sgn (hgtW l q) ((loF l l.length : Int) : Rat) = S1 at *
  generalize sgn (hgtW l q) ((hiF l l.length : Int) : Rat) = S2 at *
  generalize loF l l.length = lo at *
  generalize hiF l l.length = hi at *
  clear g1 g2 rl rh fl fh fH
  generalize hgtW l q = H at *
  generalize showR (q + ((1000 * n : Int) : Rat)) = tn at *
  generalize showR q = tq at *
  generalize showR H = tH at *
  have hp := fun k (hk : k < l.length) W (e : Env W) (h : PtsAt W (.slice (some ⟨b, o, none⟩) l.length c) l) => own_at_ok l _ ((pX l k : Int) : Rat) W h hl k1 ((fits_i64 (pX l k) (by have := wv.range hk; omega) (by have := wv.range hk; omega)).mono (by omega)) e
  have HP := Lib.hid hp; clear hp
  have WV := Lib.hid wv; clear wv
  clear fq fn fs k1 k2 k3 hx
  have HR := Lib.hid hr; clear hr
  have A1 := Lib.hid a1; clear a1
  have A2 := Lib.hid a2; clear a2
  have A3 := Lib.hid a3; clear a3
  have W1 := Lib.hid w1; clear w1
  have S1 := Lib.hid s1; clear s1
  have C1 := Lib.hid c1; clear c1
  have W2 := Lib.hid w2; clear w2
  have W3 := Lib.hid w3; clear w3
  have O1 := Lib.hid o1; clear o1
  have O2 := Lib.hid o2; clear o2
  go_enter Tryz.func5, Tryz.ntmps5
  go_wp2_with (first | (with_reducible refine ((HR.out).mono ?_); rintro e w' ⟨rfl, hb⟩; replace HV := Lib.hid (PtsAt.below HV.out hb); replace HB := Lib.hid (bch' HB.out hb); clear hb) | (with_reducible refine ((A1.out _ (ENV.out.below HB.out) HV.out).mono ?_); rintro e w' ⟨rfl, hb⟩; replace HV := Lib.hid (PtsAt.below HV.out hb); replace HB := Lib.hid (bch' HB.out hb); clear hb) | (with_reducible refine ((A2.out _ (ENV.out.below HB.out) HV.out).mono ?_); rintro e w' ⟨rfl, hb⟩; replace HV := Lib.hid (PtsAt.below HV.out hb); replace HB := Lib.hid (bch' HB.out hb); clear hb) | (with_reducible refine ((A3.out _ HV.out).mono ?_); rintro e w' ⟨rfl, hb⟩; replace HV := Lib.hid (PtsAt.below HV.out hb); replace HB := Lib.hid (bch' HB.out hb); clear hb) | (with_reducible refine ((W1.out _).mono ?_); rintro e w' ⟨rfl, hb⟩; replace HV := Lib.hid (PtsAt.below HV.out hb); replace HB := Lib.hid (bch' HB.out hb); clear hb) | (with_reducible refine ((S1.out _).mono ?_); rintro e w' ⟨rfl, hb⟩; replace HV := Lib.hid (PtsAt.below HV.out hb); replace HB := Lib.hid (bch' HB.out hb); clear hb) | (with_reducible refine ((C1.out _).mono ?_); rintro e w' ⟨rfl, hb⟩; replace HV := Lib.hid (PtsAt.below HV.out hb); replace HB := Lib.hid (bch' HB.out hb); clear hb) | (with_reducible refine ((W2.out _).mono ?_); rintro e w' ⟨rfl, hb⟩; replace HV := Lib.hid (PtsAt.below HV.out hb); replace HB := Lib.hid (bch' HB.out hb); clear hb) | (with_reducible refine ((W3.out _).mono ?_); rintro e w' ⟨rfl, hb⟩; replace HV := Lib.hid (PtsAt.below HV.out hb); replace HB := Lib.hid (bch' HB.out hb); clear hb) | (with_reducible refine ((O1.out _).mono ?_); rintro e w' ⟨rfl, hb⟩; replace HV := Lib.hid (PtsAt.below HV.out hb); replace HB := Lib.hid (bch' HB.out hb); clear hb) | (with_reducible refine ((O2.out _).mono ?_); rintro e w' ⟨rfl, hb⟩; replace HV := Lib.hid (PtsAt.below HV.out hb); replace HB := Lib.hid (bch' HB.out hb); clear hb))
  go_loopw [78] (fun i wr => ∃ k : Nat, i = .int .i64 (k : Int) ∧ k ≤ l.length ∧ Hid (Below w.heap.size w wr) ∧ Hid (PtsAt wr (.slice (some ⟨b, o, none⟩) l.length c) l)) (fun i _ => l.length - (intOf i).toNat)
  case atStart => exact ⟨0, rfl, by omega, HB, HV⟩
  case round =>
    obtain ⟨k, rfl, hk, HB2, HV2⟩ := hrel
    clear HB HV
    have HB := HB2; have HV := HV2; clear HB2 HV2
    by_cases hlt : k < l.length
    · have hlt1 : (k : Int) < (l.length : Int) := by omega
      obtain ⟨x1, y1⟩ := HC.out.below HB.out hb k hlt
      have hX := WV.out.range hlt
      have hY := WV.out.h k hlt
      have b1 := fun W => r2_whole (pX l k) W (by omega) (by omega)
      have b2 := fun W => r2_whole (pY l k) W (by omega) (by omega)
      have b3 := HP.out k hlt
      rw [hgt_point WV.out hlt, showR_int, showR_int] at b3
      have hun : IntKind.i64.wrap ((k : Int) + 1) = (k : Int) + 1 := IntWalk.i64_in _ (by omega)
      have hbr : b < wr.heap.size := by have := HB.out.size; omega
      clear hX hY
      have B1 := Lib.hid b1; clear b1
      have B2 := Lib.hid b2; clear b2
      have B3 := Lib.hid b3; clear b3
      have hK := Blk.new wr 51 #[.int .i64 (pX l k), .int .i64 (pY l k)]
      have HV3 := Lib.hid (PtsAt.below HV.out ((Below.refl _ wr).alloc (Nat.le_refl _) (.cells #[.int .i64 (pX l k), .int .i64 (pY l k)] 51)))
      have HB3 := Lib.hid (HB.out.alloc HB.out.size (.cells #[.int .i64 (pX l k), .int .i64 (pY l k)] 51))
      clear HB HV
      have HB := HB3; have HV := HV3; clear HB3 HV3
      have HK := Lib.hid hK; clear hK
      obtain ⟨d0, d1, -, -⟩ := HK.out.c2
      generalize pX l k = X1 at *
      generalize pY l k = Y1 at *
      go_wp2_with (first | (with_reducible refine ((B1.out _).mono ?_); rintro e w' ⟨rfl, hb⟩; replace HV := Lib.hid (PtsAt.below HV.out hb); replace HB := Lib.hid (bch' HB.out hb); replace HK := Lib.hid (HK.out.keep hb); clear hb d0 d1; obtain ⟨d0, d1, -, -⟩ := HK.out.c2) | (with_reducible refine ((B2.out _).mono ?_); rintro e w' ⟨rfl, hb⟩; replace HV := Lib.hid (PtsAt.below HV.out hb); replace HB := Lib.hid (bch' HB.out hb); replace HK := Lib.hid (HK.out.keep hb); clear hb d0 d1; obtain ⟨d0, d1, -, -⟩ := HK.out.c2) | (with_reducible refine ((B3.out _ (ENV.out.below HB.out) HV.out).mono ?_); rintro e w' ⟨rfl, hb⟩; replace HV := Lib.hid (PtsAt.below HV.out hb); replace HB := Lib.hid (bch' HB.out hb); replace HK := Lib.hid (HK.out.keep hb); clear hb d0 d1; obtain ⟨d0, d1, -, -⟩ := HK.out.c2))
      go_roundw
      case rel => exact ⟨k + 1, by first | rfl | simp, by omega, HB, HV⟩
      case measure => first | (simp [intOf]; done) | (simp [intOf]; omega)
    · have hlt1 : ¬ (k : Int) < (l.length : Int) := by omega
      go_wp2_with (first | (with_reducible refine ((HAW.out _ (ENV.out.below HB.out)).mono ?_); rintro e w' ⟨rfl, hb⟩; replace HB := Lib.hid (bch' HB.out hb); clear hb))
      go_ret
      exact ⟨rfl, HB.out⟩
end Go.Proofs.YtjfhebpfnegcjaaGreatDoor
