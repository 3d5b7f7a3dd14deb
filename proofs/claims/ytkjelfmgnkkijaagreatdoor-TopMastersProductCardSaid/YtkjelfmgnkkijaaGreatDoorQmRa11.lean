/-
  Own ratio: Min, Max, Neg, Floor, Round.
-/
import Derived.Test.YtkjelfmgnkkijaaGreatDoorQmRq5
set_option linter.unusedVariables false
set_option linter.unusedSimpArgs false
namespace Lum
open Go Go.RowKit Go.Shelf
open Go.Lib (decDigits itoa)
/-- What Neg, Floor and Round give. -/
def negR (a : Txt) : Txt × Int := if ratCheck a ≠ 0 then ([], ratCheck a) else (showR (-(valR a)), 0)
def floorT (a : Txt) : Txt × Int := if ratCheck a ≠ 0 then ([], ratCheck a) else (itoa (flr (valR a)), 0)
def roundT (a : Txt) : Txt × Int := if ratCheck a ≠ 0 then ([], ratCheck a) else (itoa (near (valR a)), 0)
theorem checkAll_three (a b c : Txt) : checkAll [a, b, c] = if checkTwo a b ≠ 0 then checkTwo a b else ratCheck c := by
  unfold checkTwo
  simp only [checkAll]
  by_cases h1 : ratCheck a = 0 <;> by_cases h2 : ratCheck b = 0 <;> by_cases h3 : ratCheck c = 0 <;> simp_all
end Lum
namespace Go.Proofs.YtkjelfmgnkkijaaGreatDoor
open Go.RowKit Go.Shelf Lum
open Go.Lib (decDigits itoa)
attribute [local go_sem] bs_get bs_extract_end bs_extract_from bs_extract bs_append

end Go.Proofs.YtkjelfmgnkkijaaGreatDoor
