/-
  Law 26: the program and the reference at once; the law SubmasterGives. Law 26: bounds, growing, plain; within.
-/
import Derived.Test.YtkjelfmgnkkijaaGreatDoorQfSe
import Derived.Test.YtkjelfmgnkkijaaGreatDoorQfNf
import Derived.Test.YtkjelfmgnkkijaaGreatDoorQfSq
set_option linter.unusedVariables false
set_option linter.unusedSimpArgs false
namespace Lum
open Go Go.RowKit Go.Shelf
open Go.Lib (decDigits itoa)
theorem sbs_one {W : World} {g : Nat} {t : TypeId} {nu pr : Int} {inh : Bool} {gv : Value} {gs : List Gn} (h : Blk W g t #[.int .i64 nu, .int .i64 pr, .bool inh, gv]) (hg : GnsAt W gv gs) : SbsAt W (.slice (some ⟨g, 0, none⟩) 1 1) [⟨nu, pr, inh, gs⟩] := by
  refine ⟨_, _, rfl, Nat.le_refl _, fun _ => ⟨g, 0, rfl, h.lt, fun i hi => ?_⟩⟩
  match i, hi with
  | 0, _ => exact ⟨h.c4.1, h.c4.2.1, h.c4.2.2.1, gv, h.c4.2.2.2.1, hg⟩
end Lum
namespace Go.Proofs.YtkjelfmgnkkijaaGreatDoor
open Go.RowKit Go.Shelf Lum
open Go.Lib (decDigits itoa)
attribute [local go_sem] bs_get bs_extract_end bs_extract_from bs_extract bs_append

end Go.Proofs.YtkjelfmgnkkijaaGreatDoor
namespace Lum
open Go Go.RowKit Go.Shelf
open Go.Lib (decDigits itoa)
theorem int_le {a b : Int} (h : a ≤ b) : ((a : Int) : Rat) ≤ ((b : Int) : Rat) := Rat.intCast_le_intCast.2 h
end Lum
namespace Go.Proofs.YtkjelfmgnkkijaaGreatDoor
open Go.RowKit Go.Shelf Lum
open Go.Lib (decDigits itoa)
attribute [local go_sem] bs_get bs_extract_end bs_extract_from bs_extract bs_append

end Go.Proofs.YtkjelfmgnkkijaaGreatDoor
