/-
  The law RatioComputes: the walk.
-/
import Derived.Test.YtnjaikomoljmjaaGreatDoorLr1
set_option linter.unusedVariables false
set_option linter.unusedSimpArgs false
namespace Go.Proofs.YtnjaikomoljmjaaGreatDoor
open Go.RowKit Go.Shelf Lum
open Go.Lib (decDigits itoa)
attribute [local go_sem] bs_get bs_extract_end bs_extract_from bs_extract bs_append

set_option maxRecDepth 100000 in
set_option maxHeartbeats 4000000 in
theorem law_computes (a b : Txt) (w : World) (ha : a.length ≤ 9223372036854775807) (hb : b.length ≤ 9223372036854775807) (env : Env w) :
    Calls Tryz.prog 9 #[.string ⟨(a).toArray⟩, .string ⟨(b).toArray⟩] w fun e w' => e = .returned (.bool (true)) ∧ Below w.heap.size w w' := by
  have haw := fun W (e : Env W) => law02_awake W e
  by_cases hl : 300 < a.length
  · skip
    have HB := Lib.hid (Below.refl w.heap.size w)
    have ENV := Lib.hid env; clear env
    have HAW := Lib.hid haw; clear haw
    go_enter Tryz.func9, Tryz.ntmps9
    go_wp2_with (first | (with_reducible refine ((HAW.out _ (ENV.out.below HB.out)).mono ?_); rintro e w' ⟨rfl, hb⟩; replace HB := Lib.hid (bch' HB.out hb); clear hb))
    go_ret
    exact ⟨rfl, HB.out⟩
  by_cases hl2 : 300 < b.length
  · skip
    have HB := Lib.hid (Below.refl w.heap.size w)
    have ENV := Lib.hid env; clear env
    have HAW := Lib.hid haw; clear haw
    go_enter Tryz.func9, Tryz.ntmps9
    go_wp2_with (first | (with_reducible refine ((HAW.out _ (ENV.out.below HB.out)).mono ?_); rintro e w' ⟨rfl, hb⟩; replace HB := Lib.hid (bch' HB.out hb); clear hb))
    go_ret
    exact ⟨rfl, HB.out⟩
  have la : a.length ≤ 300 := by omega
  have lb : b.length ≤ 300 := by omega
  clear hl hl2 ha hb
  have hc := fun W (e : Env W) => own_rcompare a b W e (by omega) (by omega)
  have gc := fun W => r2_compare a b W (by omega) (by omega)
  generalize cTwo a b = vc at *
  obtain ⟨nc, mc⟩ := vc
  dsimp only at hc gc
  have hadd := fun W (e : Env W) => own_radd a b W e (by omega) (by omega)
  have gadd := fun W => r2_add a b W (by omega) (by omega)
  generalize rTwo a b qAdd = vadd at *
  obtain ⟨nadd, madd⟩ := vadd
  dsimp only at hadd gadd
  have hsub := fun W (e : Env W) => own_rsub a b W e (by omega) (by omega)
  have gsub := fun W => r2_sub a b W (by omega) (by omega)
  generalize rTwo a b qSub = vsub at *
  obtain ⟨nsub, msub⟩ := vsub
  dsimp only at hsub gsub
  have hmul := fun W (e : Env W) => own_rmul a b W e (by omega) (by omega)
  have gmul := fun W => r2_mul a b W (by omega) (by omega)
  generalize rTwo a b qMul = vmul at *
  obtain ⟨nmul, mmul⟩ := vmul
  dsimp only at hmul gmul
  have hdiv := fun W (e : Env W) => own_rdiv a b W e (by omega) (by omega)
  have gdiv := fun W => r2_div a b W (by omega) (by omega)
  generalize rTwo a b qDiv = vdiv at *
  obtain ⟨ndiv, mdiv⟩ := vdiv
  dsimp only at hdiv gdiv
  have hmin := fun W (e : Env W) => own_rmin a b W (by omega) (by omega) e
  have gmin := fun W => r2_min a b W (by omega) (by omega)
  generalize minT a b = vmin at *
  obtain ⟨nmin, mmin⟩ := vmin
  dsimp only at hmin gmin
  have hmax := fun W (e : Env W) => own_rmax a b W (by omega) (by omega) e
  have gmax := fun W => r2_max a b W (by omega) (by omega)
  generalize maxT a b = vmax at *
  obtain ⟨nmax, mmax⟩ := vmax
  dsimp only at hmax gmax
  have HAW := Lib.hid haw; clear haw
  have HC := Lib.hid hc; clear hc
  have GC := Lib.hid gc; clear gc
  have HADD := Lib.hid hadd; clear hadd
  have GADD := Lib.hid gadd; clear gadd
  have HSUB := Lib.hid hsub; clear hsub
  have GSUB := Lib.hid gsub; clear gsub
  have HMUL := Lib.hid hmul; clear hmul
  have GMUL := Lib.hid gmul; clear gmul
  have HDIV := Lib.hid hdiv; clear hdiv
  have GDIV := Lib.hid gdiv; clear gdiv
  have HMIN := Lib.hid hmin; clear hmin
  have GMIN := Lib.hid gmin; clear gmin
  have HMAX := Lib.hid hmax; clear hmax
  have GMAX := Lib.hid gmax; clear gmax
  have ENV := Lib.hid env; clear env
  have HB := Lib.hid (Below.refl w.heap.size w)
  go_enter Tryz.func9, Tryz.ntmps9
  go_wp2_with (first | (with_reducible refine ((HAW.out _ (ENV.out.below HB.out)).mono ?_); rintro e w' ⟨rfl, hb⟩; replace HB := Lib.hid (bch' HB.out hb); clear hb) | (with_reducible refine ((HC.out _ (ENV.out.below HB.out)).mono ?_); rintro e w' ⟨rfl, hb⟩; replace HB := Lib.hid (bch' HB.out hb); clear hb) | (with_reducible refine ((GC.out _).mono ?_); rintro e w' ⟨rfl, hb⟩; replace HB := Lib.hid (bch' HB.out hb); clear hb) | (with_reducible refine ((HADD.out _ (ENV.out.below HB.out)).mono ?_); rintro e w' ⟨rfl, hb⟩; replace HB := Lib.hid (bch' HB.out hb); clear hb) | (with_reducible refine ((GADD.out _).mono ?_); rintro e w' ⟨rfl, hb⟩; replace HB := Lib.hid (bch' HB.out hb); clear hb) | (with_reducible refine ((HSUB.out _ (ENV.out.below HB.out)).mono ?_); rintro e w' ⟨rfl, hb⟩; replace HB := Lib.hid (bch' HB.out hb); clear hb) | (with_reducible refine ((GSUB.out _).mono ?_); rintro e w' ⟨rfl, hb⟩; replace HB := Lib.hid (bch' HB.out hb); clear hb) | (with_reducible refine ((HMUL.out _ (ENV.out.below HB.out)).mono ?_); rintro e w' ⟨rfl, hb⟩; replace HB := Lib.hid (bch' HB.out hb); clear hb) | (with_reducible refine ((GMUL.out _).mono ?_); rintro e w' ⟨rfl, hb⟩; replace HB := Lib.hid (bch' HB.out hb); clear hb) | (with_reducible refine ((HDIV.out _ (ENV.out.below HB.out)).mono ?_); rintro e w' ⟨rfl, hb⟩; replace HB := Lib.hid (bch' HB.out hb); clear hb) | (with_reducible refine ((GDIV.out _).mono ?_); rintro e w' ⟨rfl, hb⟩; replace HB := Lib.hid (bch' HB.out hb); clear hb) | (with_reducible refine ((HMIN.out _ (ENV.out.below HB.out)).mono ?_); rintro e w' ⟨rfl, hb⟩; replace HB := Lib.hid (bch' HB.out hb); clear hb) | (with_reducible refine ((GMIN.out _).mono ?_); rintro e w' ⟨rfl, hb⟩; replace HB := Lib.hid (bch' HB.out hb); clear hb) | (with_reducible refine ((HMAX.out _ (ENV.out.below HB.out)).mono ?_); rintro e w' ⟨rfl, hb⟩; replace HB := Lib.hid (bch' HB.out hb); clear hb) | (with_reducible refine ((GMAX.out _).mono ?_); rintro e w' ⟨rfl, hb⟩; replace HB := Lib.hid (bch' HB.out hb); clear hb))
  go_ret
  exact ⟨rfl, HB.out⟩
end Go.Proofs.YtnjaikomoljmjaaGreatDoor
