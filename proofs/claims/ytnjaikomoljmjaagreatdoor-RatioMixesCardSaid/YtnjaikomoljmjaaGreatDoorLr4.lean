/-
  The law RatioMixes: the walk.
-/
import Derived.Test.YtnjaikomoljmjaaGreatDoorLr1
set_option linter.unusedVariables false
set_option linter.unusedSimpArgs false
namespace Go.Proofs.YtnjaikomoljmjaaGreatDoor
open Go.RowKit Go.Shelf Lum
open Go.Lib (decDigits itoa)
attribute [local go_sem] bs_get bs_extract_end bs_extract_from bs_extract bs_append

set_option maxRecDepth 100000 in
set_option maxHeartbeats 4000000 in
theorem law_mixes (a b c : Txt) (w : World) (ha : a.length ≤ 9223372036854775807) (hb : b.length ≤ 9223372036854775807) (hc : c.length ≤ 9223372036854775807) (env : Env w) :
    Calls Tryz.prog 11 #[.string ⟨(a).toArray⟩, .string ⟨(b).toArray⟩, .string ⟨(c).toArray⟩] w fun e w' => e = .returned (.bool (true)) ∧ Below w.heap.size w w' := by
  have haw := fun W (e : Env W) => law02_awake W e
  by_cases hl : 200 < a.length
  · skip
    have HB := Lib.hid (Below.refl w.heap.size w)
    have ENV := Lib.hid env; clear env
    have HAW := Lib.hid haw; clear haw
    go_enter Tryz.func11, Tryz.ntmps11
    go_wp2_with (first | (with_reducible refine ((HAW.out _ (ENV.out.below HB.out)).mono ?_); rintro e w' ⟨rfl, hb⟩; replace HB := Lib.hid (bch' HB.out hb); clear hb))
    go_ret
    exact ⟨rfl, HB.out⟩
  by_cases hl2 : 200 < b.length
  · skip
    have HB := Lib.hid (Below.refl w.heap.size w)
    have ENV := Lib.hid env; clear env
    have HAW := Lib.hid haw; clear haw
    go_enter Tryz.func11, Tryz.ntmps11
    go_wp2_with (first | (with_reducible refine ((HAW.out _ (ENV.out.below HB.out)).mono ?_); rintro e w' ⟨rfl, hb⟩; replace HB := Lib.hid (bch' HB.out hb); clear hb))
    go_ret
    exact ⟨rfl, HB.out⟩
  by_cases hl3 : 200 < c.length
  · skip
    have HB := Lib.hid (Below.refl w.heap.size w)
    have ENV := Lib.hid env; clear env
    have HAW := Lib.hid haw; clear haw
    go_enter Tryz.func11, Tryz.ntmps11
    go_wp2_with (first | (with_reducible refine ((HAW.out _ (ENV.out.below HB.out)).mono ?_); rintro e w' ⟨rfl, hb⟩; replace HB := Lib.hid (bch' HB.out hb); clear hb))
    go_ret
    exact ⟨rfl, HB.out⟩
  have la : a.length ≤ 200 := by omega
  have lb : b.length ≤ 200 := by omega
  have lc : c.length ≤ 200 := by omega
  clear hl hl2 hl3 ha hb hc
  have hx := fun W (e : Env W) => own_mix a b c W (by omega) (by omega) (by omega) e
  have gx := fun W => r2_mix a b c W (by omega) (by omega) (by omega)
  generalize mixT a b c = v at *
  obtain ⟨n, m⟩ := v
  dsimp only at hx gx
  have HAW := Lib.hid haw; clear haw
  have HX := Lib.hid hx; clear hx
  have GX := Lib.hid gx; clear gx
  have ENV := Lib.hid env; clear env
  have HB := Lib.hid (Below.refl w.heap.size w)
  go_enter Tryz.func11, Tryz.ntmps11
  go_wp2_with (first | (with_reducible refine ((HAW.out _ (ENV.out.below HB.out)).mono ?_); rintro e w' ⟨rfl, hb⟩; replace HB := Lib.hid (bch' HB.out hb); clear hb) | (with_reducible refine ((HX.out _ (ENV.out.below HB.out)).mono ?_); rintro e w' ⟨rfl, hb⟩; replace HB := Lib.hid (bch' HB.out hb); clear hb) | (with_reducible refine ((GX.out _).mono ?_); rintro e w' ⟨rfl, hb⟩; replace HB := Lib.hid (bch' HB.out hb); clear hb))
  go_ret
  exact ⟨rfl, HB.out⟩
end Go.Proofs.YtnjaikomoljmjaaGreatDoor
