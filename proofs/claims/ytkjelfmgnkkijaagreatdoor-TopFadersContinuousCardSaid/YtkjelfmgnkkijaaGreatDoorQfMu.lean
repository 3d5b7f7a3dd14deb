/-
  Masters: the plain words. Masters: own slices of submasters; tables of which some are left out. Masters: the sources, and masters without some of them: the plain words. Masters: Check, on, grand, Grand of the program. Masters: within, Apply, the closure of Factor. Masters: product and Factor of the program.
-/
import Derived.Test.YtkjelfmgnkkijaaGreatDoorQfNf
import Derived.Test.YtkjelfmgnkkijaaGreatDoorQfSp
import Derived.Test.YtkjelfmgnkkijaaGreatDoorQfOo
import Derived.Test.YtkjelfmgnkkijaaGreatDoorQfSx
import Derived.Test.YtkjelfmgnkkijaaGreatDoorQfSm
set_option linter.unusedVariables false
set_option linter.unusedSimpArgs false
namespace Lum
open Go Go.RowKit Go.Shelf
open Go.Lib (decDigits itoa)
/-- The error of masters. -/
def maE (fr : Txt) (tz st ti : Int) (su : List Sb) (fd : List Fdr) : Int := if glE fr tz st ti ≠ 0 then glE fr tz st ti else if tabE su ≠ 0 then tabE su else facE fd
/-- The grand master. -/
def mainQ (fr : Txt) (tz st ti : Int) (bl : Bool) (t : Int) : Rat := if bl then 0 else glV (valR fr) tz st ti t / ((65535 : Int) : Rat)
/-- The factor of a channel, by the first k submasters. -/
def facQ (a : Rat) (su : List Sb) (fd : List Fdr) (ch t : Int) (k : Nat) : Rat := (su.take k).foldl (fun a s => a * sclQ s fd ch t) a
/-- Right masters, small. -/
structure MaOk (fr : Txt) (tz st ti : Int) (su : List Sb) (fd : List Fdr) : Prop where
  gl : glE fr tz st ti = 0
  len : fr.length ≤ 60
  tab : TabOk su
  fac : FacOk fd
  lens : ∀ i, i < fd.length → (fdv fd i).fr.length ≤ 60
/-- The submasters that act on a channel. -/
def actP (ch : Int) (s : Sb) : Bool := s.inh && (gnG s.gs ch 0).isSome
def actL (su : List Sb) (ch : Int) : List Sb := su.filter (actP ch)
def actN (su : List Sb) (ch : Int) : List Int := (actL su ch).map (·.nu)
/-- The error of masters and a channel. -/
def onE (fr : Txt) (tz st ti : Int) (su : List Sb) (fd : List Fdr) (ch : Int) : Int := if maE fr tz st ti su fd ≠ 0 then maE fr tz st ti su fd else if ch < 1 ∨ 999 < ch then 2 else 0
end Lum
namespace Lum
open Go Go.RowKit Go.Shelf
open Go.Lib (decDigits itoa)
/-- A submaster's cells, with the slice of its gains. -/
def encS (x : Sb × Value) : List Value := [.int .i64 x.1.nu, .int .i64 x.1.pr, .bool x.1.inh, x.2]
theorem GnsAt.one {W : World} {v : Value} {l : List Gn} (h : GnsAt W v l) : v.oneCell' = true := by obtain ⟨p, c, rfl, -⟩ := h; rfl
/-- The table without an inhibitive submaster. -/
def freeP (n : Int) (s : Sb) : Bool := s.nu != n || !s.inh
def freeL (su : List Sb) (n : Int) : List Sb := su.filter (freeP n)
def dropP (n : Int) (s : Sb) : Bool := s.nu != n
def dropL (su : List Sb) (n : Int) : List Sb := su.filter (dropP n)
/-- Whether a table has an inhibitive submaster with a number. -/
def hasI (su : List Sb) (n : Int) : Bool := su.any (fun s => s.nu == n && s.inh)
end Lum
namespace Lum
open Go Go.RowKit Go.Shelf
open Go.Lib (decDigits itoa)
/-- The sources of a channel: kinds and numbers. -/
def srcL (bl : Bool) (su : List Sb) (ch : Int) : List (Int × Int) := (5, 0) :: ((if bl then [(6, 0)] else []) ++ (actN su ch).map fun n => (7, n))
/-- Masters without the sources xs. -/
def aFr (xs : List (Int × Int)) (fr : Txt) : Txt := if xs.any (·.1 == 5) then [54, 53, 53, 51, 53] else fr
def aTo (xs : List (Int × Int)) (tz : Int) : Int := if xs.any (·.1 == 5) then 65535 else tz
def aZe (xs : List (Int × Int)) (st : Int) : Int := if xs.any (·.1 == 5) then 0 else st
def aBl (xs : List (Int × Int)) (bl : Bool) : Bool := bl && !xs.any (·.1 == 6)
def aSu (xs : List (Int × Int)) (su : List Sb) : List Sb := su.filter fun s => xs.all fun x => x.1 != 7 || freeP x.2 s
/-- What Without says of a source of right masters. -/
def woE (k n : Int) (su : List Sb) : Int := if k = 5 ∨ k = 6 then (if n ≠ 0 then 2 else 0) else if k = 7 then (if hasI su n then 0 else 6) else 1
end Lum
namespace Go.Proofs.YtkjelfmgnkkijaaGreatDoor
open Go.RowKit Go.Shelf Lum
open Go.Lib (decDigits itoa)
attribute [local go_sem] bs_get bs_extract_end bs_extract_from bs_extract bs_append

end Go.Proofs.YtkjelfmgnkkijaaGreatDoor
namespace Lum
open Go Go.RowKit Go.Shelf
open Go.Lib (decDigits itoa)
/-- The error of a number from 0 to a limit. -/
def wiE (v : Txt) (lim : Int) : Int := if ratCheck v ≠ 0 then ratCheck v else if valR v < 0 ∨ ((lim : Int) : Rat) < valR v then 2 else 0
theorem wiE_bad {v : Txt} {lim : Int} (h : ¬ ratCheck v = 0) : wiE v lim = ratCheck v := by unfold wiE; rw [if_pos h]
theorem wiE_out {q : Rat} {lim : Int} (h : ratCheck (showR q) = 0) (h2 : q < 0 ∨ ((lim : Int) : Rat) < q) : wiE (showR q) lim = 2 := by unfold wiE; rw [if_neg (by simpa using h), valR_showR, if_pos h2]
theorem wiE_in {q : Rat} {lim : Int} (h : ratCheck (showR q) = 0) (h2 : ¬ (q < 0 ∨ ((lim : Int) : Rat) < q)) : wiE (showR q) lim = 0 := by unfold wiE; rw [if_neg (by simpa using h), valR_showR, if_neg h2]
theorem wiE_zero {v : Txt} {lim : Int} (h : wiE v lim = 0) : ∃ q, v = showR q ∧ valR v = q ∧ 0 ≤ q ∧ q ≤ ((lim : Int) : Rat) := by
  by_cases h1 : ratCheck v = 0
  · obtain ⟨q, rfl, -⟩ := ratCheck_zero v h1
    by_cases h2 : q < 0 ∨ ((lim : Int) : Rat) < q
    · rw [wiE_out h1 h2] at h; omega
    · exact ⟨q, rfl, valR_showR q, Rat.not_lt.1 fun g => h2 (.inl g), Rat.not_lt.1 fun g => h2 (.inr g)⟩
  · rw [wiE_bad h1] at h; exact absurd h h1
/-- A level behind the masters. -/
def apT (v fa : Txt) (at_ : Int) : Txt × Int := if wiE v 65535 ≠ 0 then ([], wiE v 65535) else if wiE fa 1 ≠ 0 then ([], wiE fa 1) else if at_ < 0 ∨ 15 ≤ at_ then ([], 2) else if at_ ≠ 0 then (v, 0) else (showR (valR v * valR fa), 0)
theorem apT_v {v fa : Txt} {at_ : Int} (h : ¬ wiE v 65535 = 0) : apT v fa at_ = ([], wiE v 65535) := by unfold apT; rw [if_pos h]
theorem apT_f {v fa : Txt} {at_ : Int} (h : wiE v 65535 = 0) (h2 : ¬ wiE fa 1 = 0) : apT v fa at_ = ([], wiE fa 1) := by unfold apT; rw [if_neg (by simpa using h), if_pos h2]
theorem apT_at {v fa : Txt} {at_ : Int} (h : wiE v 65535 = 0) (h2 : wiE fa 1 = 0) (h3 : at_ < 0 ∨ 15 ≤ at_) : apT v fa at_ = ([], 2) := by unfold apT; rw [if_neg (by simpa using h), if_neg (by simpa using h2), if_pos h3]
theorem apT_no {v fa : Txt} {at_ : Int} (h : wiE v 65535 = 0) (h2 : wiE fa 1 = 0) (h3 : ¬ (at_ < 0 ∨ 15 ≤ at_)) (h4 : ¬ at_ = 0) : apT v fa at_ = (v, 0) := by unfold apT; rw [if_neg (by simpa using h), if_neg (by simpa using h2), if_neg h3, if_pos h4]
theorem apT_ok {v fa : Txt} {at_ : Int} (h : wiE v 65535 = 0) (h2 : wiE fa 1 = 0) (h3 : ¬ (at_ < 0 ∨ 15 ≤ at_)) (h4 : at_ = 0) : apT v fa at_ = (showR (valR v * valR fa), 0) := by unfold apT; rw [if_neg (by simpa using h), if_neg (by simpa using h2), if_neg h3, if_neg (by simpa using h4)]
end Lum
namespace Go.Proofs.YtkjelfmgnkkijaaGreatDoor
open Go.RowKit Go.Shelf Lum
open Go.Lib (decDigits itoa)
attribute [local go_sem] bs_get bs_extract_end bs_extract_from bs_extract bs_append

set_option maxRecDepth 100000 in
set_option maxHeartbeats 4000000 in
theorem own_mwithin (lim : Int) (v : Txt) (k : Nat) (w : World) (hx : v.length ≤ 100000) (hk : ∀ q, v = showR q → Fits k q) (hk2 : k ≤ 4000) (h0 : 0 ≤ lim) (h1 : lim ≤ 65535) (env : Env w) :
    Calls Tryz.prog 135 #[.string ⟨(v).toArray⟩, .int .i64 lim] w fun e w' => e = .returned (.int .i64 (wiE v lim)) ∧ Below w.heap.size w w' := by
  have ENV := Lib.hid env; clear env
  have HB := Lib.hid (Below.refl w.heap.size w)
  have hw0 := fun W (e : Env W) => own_whole 0 W (by omega) (by omega) e
  have hw1 := fun W (e : Env W) => own_whole lim W (by omega) (by omega) e
  have hc := fun W (e : Env W) => own_rcheck v W hx e
  rw [show itoa 0 = [48] by decide +kernel] at hw0
  rw [← showR_int] at hw1
  by_cases hz : ratCheck v = 0
  · obtain ⟨q, rfl, -⟩ := ratCheck_zero v hz
    have fq := hk q rfl
    have fm := fits_i64 lim (by omega) (by omega)
    have c1 := fun W (e : Env W) => own_rcompare (showR 0) (showR q) W e (len_ok fits_0 (by omega)) (len_ok fq (by omega))
    have c2 := fun W (e : Env W) => own_rcompare (showR q) (showR ((lim : Int) : Rat)) W e (len_ok fq (by omega)) (len_ok fm (by omega))
    rw [cmp_gen fits_0 fq (by omega), showR_zero] at c1
    rw [cmp_gen fq fm (by omega)] at c2
    dsimp only at c1 c2
    obtain ⟨s1, hs1⟩ : ∃ s, s = sgn 0 q := ⟨_, rfl⟩
    obtain ⟨s2, hs2⟩ : ∃ s, s = sgn q ((lim : Int) : Rat) := ⟨_, rfl⟩
    rw [← hs1] at c1
    rw [← hs2] at c2
    have HS1 := Lib.hid hs1; have HS2 := Lib.hid hs2; clear hs1 hs2
    rw [hz] at hc
    by_cases g1 : q < 0
    · rw [wiE_out hz (.inl g1)]
      have k1 : 0 < s1 := by rw [HS1.out]; exact (sgn_gt _ _).2 g1
      clear g1
      have HC := Lib.hid hc; clear hc
      have HW0 := Lib.hid hw0; clear hw0
      have HW1 := Lib.hid hw1; clear hw1
      have HC1 := Lib.hid c1; clear c1
      have HC2 := Lib.hid c2; clear c2
      clear hz fq fm hk hx
      generalize showR q = tq at *
      generalize showR ((lim : Int) : Rat) = tl at *
      go_enter Tryz.func135, Tryz.ntmps135
      go_wp2_with (first | (with_reducible refine ((HC.out _ (ENV.out.below HB.out)).mono ?_); rintro e w' ⟨rfl, hb⟩; replace HB := Lib.hid (bch' HB.out hb); clear hb) | (with_reducible refine ((HW0.out _ (ENV.out.below HB.out)).mono ?_); rintro e w' ⟨rfl, hb⟩; replace HB := Lib.hid (bch' HB.out hb); clear hb) | (with_reducible refine ((HW1.out _ (ENV.out.below HB.out)).mono ?_); rintro e w' ⟨rfl, hb⟩; replace HB := Lib.hid (bch' HB.out hb); clear hb) | (with_reducible refine ((HC1.out _ (ENV.out.below HB.out)).mono ?_); rintro e w' ⟨rfl, hb⟩; replace HB := Lib.hid (bch' HB.out hb); clear hb) | (with_reducible refine ((HC2.out _ (ENV.out.below HB.out)).mono ?_); rintro e w' ⟨rfl, hb⟩; replace HB := Lib.hid (bch' HB.out hb); clear hb))
      go_ret
      exact ⟨rfl, HB.out⟩
    have k1 : ¬ 0 < s1 := by rw [HS1.out]; exact mt (sgn_gt _ _).1 g1
    by_cases g2 : ((lim : Int) : Rat) < q
    · rw [wiE_out hz (.inr g2)]
      have k2 : 0 < s2 := by rw [HS2.out]; exact (sgn_gt _ _).2 g2
      clear g1 g2
      have HC := Lib.hid hc; clear hc
      have HW0 := Lib.hid hw0; clear hw0
      have HW1 := Lib.hid hw1; clear hw1
      have HC1 := Lib.hid c1; clear c1
      have HC2 := Lib.hid c2; clear c2
      clear hz fq fm hk hx
      generalize showR q = tq at *
      generalize showR ((lim : Int) : Rat) = tl at *
      go_enter Tryz.func135, Tryz.ntmps135
      go_wp2_with (first | (with_reducible refine ((HC.out _ (ENV.out.below HB.out)).mono ?_); rintro e w' ⟨rfl, hb⟩; replace HB := Lib.hid (bch' HB.out hb); clear hb) | (with_reducible refine ((HW0.out _ (ENV.out.below HB.out)).mono ?_); rintro e w' ⟨rfl, hb⟩; replace HB := Lib.hid (bch' HB.out hb); clear hb) | (with_reducible refine ((HW1.out _ (ENV.out.below HB.out)).mono ?_); rintro e w' ⟨rfl, hb⟩; replace HB := Lib.hid (bch' HB.out hb); clear hb) | (with_reducible refine ((HC1.out _ (ENV.out.below HB.out)).mono ?_); rintro e w' ⟨rfl, hb⟩; replace HB := Lib.hid (bch' HB.out hb); clear hb) | (with_reducible refine ((HC2.out _ (ENV.out.below HB.out)).mono ?_); rintro e w' ⟨rfl, hb⟩; replace HB := Lib.hid (bch' HB.out hb); clear hb))
      go_ret
      exact ⟨rfl, HB.out⟩
    have k2 : ¬ 0 < s2 := by rw [HS2.out]; exact mt (sgn_gt _ _).1 g2
    rw [wiE_in hz (fun h => h.elim g1 g2)]
    clear g1 g2
    have HC := Lib.hid hc; clear hc
    have HW0 := Lib.hid hw0; clear hw0
    have HW1 := Lib.hid hw1; clear hw1
    have HC1 := Lib.hid c1; clear c1
    have HC2 := Lib.hid c2; clear c2
    clear hz fq fm hk hx
    generalize showR q = tq at *
    generalize showR ((lim : Int) : Rat) = tl at *
    go_enter Tryz.func135, Tryz.ntmps135
    go_wp2_with (first | (with_reducible refine ((HC.out _ (ENV.out.below HB.out)).mono ?_); rintro e w' ⟨rfl, hb⟩; replace HB := Lib.hid (bch' HB.out hb); clear hb) | (with_reducible refine ((HW0.out _ (ENV.out.below HB.out)).mono ?_); rintro e w' ⟨rfl, hb⟩; replace HB := Lib.hid (bch' HB.out hb); clear hb) | (with_reducible refine ((HW1.out _ (ENV.out.below HB.out)).mono ?_); rintro e w' ⟨rfl, hb⟩; replace HB := Lib.hid (bch' HB.out hb); clear hb) | (with_reducible refine ((HC1.out _ (ENV.out.below HB.out)).mono ?_); rintro e w' ⟨rfl, hb⟩; replace HB := Lib.hid (bch' HB.out hb); clear hb) | (with_reducible refine ((HC2.out _ (ENV.out.below HB.out)).mono ?_); rintro e w' ⟨rfl, hb⟩; replace HB := Lib.hid (bch' HB.out hb); clear hb))
    go_ret
    exact ⟨rfl, HB.out⟩
  · rw [wiE_bad hz]
    have hne : ((ratCheck v : Int) != 0) = true := by simpa using hz
    clear hz
    generalize ratCheck v = m at *
    have HC := Lib.hid hc; clear hc
    have HW0 := Lib.hid hw0; clear hw0
    have HW1 := Lib.hid hw1; clear hw1
    go_enter Tryz.func135, Tryz.ntmps135
    go_wp2_with (first | (with_reducible refine ((HC.out _ (ENV.out.below HB.out)).mono ?_); rintro e w' ⟨rfl, hb⟩; replace HB := Lib.hid (bch' HB.out hb); clear hb))
    go_ret
    exact ⟨rfl, HB.out⟩

set_option maxRecDepth 100000 in
set_option maxHeartbeats 4000000 in
theorem own_mapply (at_ : Int) (v fa : Txt) (k l : Nat) (w : World) (hx : v.length ≤ 100000) (hy : fa.length ≤ 100000) (hk : ∀ q, v = showR q → Fits k q) (hl : ∀ q, fa = showR q → Fits l q) (hkl : k + l ≤ 4000) (env : Env w) :
    Calls Tryz.prog 78 #[.string ⟨(v).toArray⟩, .string ⟨(fa).toArray⟩, .int .i64 at_] w fun e w' => e = .returned (.tuple #[.string ⟨((apT v fa at_).1).toArray⟩, .int .i64 ((apT v fa at_).2)]) ∧ Below w.heap.size w w' := by
  have ENV := Lib.hid env; clear env
  have HB := Lib.hid (Below.refl w.heap.size w)
  have ha := fun W (e : Env W) => own_mwithin 65535 v k W hx hk (by omega) (by omega) (by omega) e
  have hb2 := fun W (e : Env W) => own_mwithin 1 fa l W hy hl (by omega) (by omega) (by omega) e
  by_cases z1 : wiE v 65535 = 0
  · rw [z1] at ha
    by_cases z2 : wiE fa 1 = 0
    · rw [z2] at hb2
      by_cases o1 : at_ < 0
      · rw [apT_at z1 z2 (by omega)]
        clear z1 z2
        have HA := Lib.hid ha; clear ha
        have HB2 := Lib.hid hb2; clear hb2
        go_enter Tryz.func78, Tryz.ntmps78
        go_wp2_with (first | (with_reducible refine ((HA.out _ (ENV.out.below HB.out)).mono ?_); rintro e w' ⟨rfl, hb⟩; replace HB := Lib.hid (bch' HB.out hb); clear hb) | (with_reducible refine ((HB2.out _ (ENV.out.below HB.out)).mono ?_); rintro e w' ⟨rfl, hb⟩; replace HB := Lib.hid (bch' HB.out hb); clear hb) | (with_reducible refine ((HMU.out _ (ENV.out.below HB.out)).mono ?_); rintro e w' ⟨rfl, hb⟩; replace HB := Lib.hid (bch' HB.out hb); clear hb))
        go_ret2
        exact ⟨rfl, HB.out⟩
      by_cases o2 : 15 ≤ at_
      · rw [apT_at z1 z2 (by omega)]
        clear z1 z2
        have HA := Lib.hid ha; clear ha
        have HB2 := Lib.hid hb2; clear hb2
        go_enter Tryz.func78, Tryz.ntmps78
        go_wp2_with (first | (with_reducible refine ((HA.out _ (ENV.out.below HB.out)).mono ?_); rintro e w' ⟨rfl, hb⟩; replace HB := Lib.hid (bch' HB.out hb); clear hb) | (with_reducible refine ((HB2.out _ (ENV.out.below HB.out)).mono ?_); rintro e w' ⟨rfl, hb⟩; replace HB := Lib.hid (bch' HB.out hb); clear hb) | (with_reducible refine ((HMU.out _ (ENV.out.below HB.out)).mono ?_); rintro e w' ⟨rfl, hb⟩; replace HB := Lib.hid (bch' HB.out hb); clear hb))
        go_ret2
        exact ⟨rfl, HB.out⟩
      by_cases o3 : at_ = 0
      · rw [apT_ok z1 z2 (by omega) o3]
        obtain ⟨x, rfl, e1, -, -⟩ := wiE_zero z1
        obtain ⟨y, rfl, e2, -, -⟩ := wiE_zero z2
        rw [e1, e2]
        have hmu := fun W (e : Env W) => own_rmul (showR x) (showR y) W e hx hy
        rw [mul_gen (hk x rfl) (hl y rfl) (by omega)] at hmu
        dsimp only at hmu
        have o4 : ((at_ : Int) != 0) = false := by simpa using o3
        clear z1 z2 e1 e2 hk hl o3
        generalize showR (x * y) = t3 at *
        generalize showR x = t1 at *
        generalize showR y = t2 at *
        have HA := Lib.hid ha; clear ha
        have HB2 := Lib.hid hb2; clear hb2
        have HMU := Lib.hid hmu; clear hmu
        go_enter Tryz.func78, Tryz.ntmps78
        go_wp2_with (first | (with_reducible refine ((HA.out _ (ENV.out.below HB.out)).mono ?_); rintro e w' ⟨rfl, hb⟩; replace HB := Lib.hid (bch' HB.out hb); clear hb) | (with_reducible refine ((HB2.out _ (ENV.out.below HB.out)).mono ?_); rintro e w' ⟨rfl, hb⟩; replace HB := Lib.hid (bch' HB.out hb); clear hb) | (with_reducible refine ((HMU.out _ (ENV.out.below HB.out)).mono ?_); rintro e w' ⟨rfl, hb⟩; replace HB := Lib.hid (bch' HB.out hb); clear hb))
        go_ret2
        exact ⟨rfl, HB.out⟩
      · rw [apT_no z1 z2 (by omega) o3]
        have o4 : ((at_ : Int) != 0) = true := by simpa using o3
        clear z1 z2 o3
        have HA := Lib.hid ha; clear ha
        have HB2 := Lib.hid hb2; clear hb2
        go_enter Tryz.func78, Tryz.ntmps78
        go_wp2_with (first | (with_reducible refine ((HA.out _ (ENV.out.below HB.out)).mono ?_); rintro e w' ⟨rfl, hb⟩; replace HB := Lib.hid (bch' HB.out hb); clear hb) | (with_reducible refine ((HB2.out _ (ENV.out.below HB.out)).mono ?_); rintro e w' ⟨rfl, hb⟩; replace HB := Lib.hid (bch' HB.out hb); clear hb) | (with_reducible refine ((HMU.out _ (ENV.out.below HB.out)).mono ?_); rintro e w' ⟨rfl, hb⟩; replace HB := Lib.hid (bch' HB.out hb); clear hb))
        go_ret2
        exact ⟨rfl, HB.out⟩
    · rw [apT_f z1 z2]
      have hne : ((wiE fa 1 : Int) != 0) = true := by simpa using z2
      clear z1 z2
      generalize wiE fa 1 = m at *
      have HA := Lib.hid ha; clear ha
      have HB2 := Lib.hid hb2; clear hb2
      go_enter Tryz.func78, Tryz.ntmps78
      go_wp2_with (first | (with_reducible refine ((HA.out _ (ENV.out.below HB.out)).mono ?_); rintro e w' ⟨rfl, hb⟩; replace HB := Lib.hid (bch' HB.out hb); clear hb) | (with_reducible refine ((HB2.out _ (ENV.out.below HB.out)).mono ?_); rintro e w' ⟨rfl, hb⟩; replace HB := Lib.hid (bch' HB.out hb); clear hb) | (with_reducible refine ((HMU.out _ (ENV.out.below HB.out)).mono ?_); rintro e w' ⟨rfl, hb⟩; replace HB := Lib.hid (bch' HB.out hb); clear hb))
      go_ret2
      exact ⟨rfl, HB.out⟩
  · rw [apT_v z1]
    have hne : ((wiE v 65535 : Int) != 0) = true := by simpa using z1
    clear z1
    generalize wiE v 65535 = m at *
    have HA := Lib.hid ha; clear ha
    have HB2 := Lib.hid hb2; clear hb2
    go_enter Tryz.func78, Tryz.ntmps78
    go_wp2_with (first | (with_reducible refine ((HA.out _ (ENV.out.below HB.out)).mono ?_); rintro e w' ⟨rfl, hb⟩; replace HB := Lib.hid (bch' HB.out hb); clear hb) | (with_reducible refine ((HB2.out _ (ENV.out.below HB.out)).mono ?_); rintro e w' ⟨rfl, hb⟩; replace HB := Lib.hid (bch' HB.out hb); clear hb) | (with_reducible refine ((HMU.out _ (ENV.out.below HB.out)).mono ?_); rintro e w' ⟨rfl, hb⟩; replace HB := Lib.hid (bch' HB.out hb); clear hb))
    go_ret2
    exact ⟨rfl, HB.out⟩

end Go.Proofs.YtkjelfmgnkkijaaGreatDoor
namespace Go.Proofs.YtkjelfmgnkkijaaGreatDoor
open Go.RowKit Go.Shelf Lum
open Go.Lib (decDigits itoa)
attribute [local go_sem] bs_get bs_extract_end bs_extract_from bs_extract bs_append

end Go.Proofs.YtkjelfmgnkkijaaGreatDoor
