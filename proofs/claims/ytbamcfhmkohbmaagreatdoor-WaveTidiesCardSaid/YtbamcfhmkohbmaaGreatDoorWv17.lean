/-
  The laws WaveReads, WaveChanges: the walks.
-/
import Derived.Test.YtbamcfhmkohbmaaGreatDoorWv12
import Derived.Test.YtbamcfhmkohbmaaGreatDoorWv11
import Derived.Test.YtbamcfhmkohbmaaGreatDoorWe
import Derived.Test.YtbamcfhmkohbmaaGreatDoorWf
set_option linter.unusedVariables false
set_option linter.unusedSimpArgs false
namespace Lum
open Go Go.RowKit Go.Shelf
open Go.Lib (decDigits itoa)
theorem tidF_len : ∀ (n i : Nat) (l : List (Int × Int)), (tidF n i l).length ≤ l.length
  | 0, _, _ => Nat.le_refl _
  | n + 1, i, l => by
    rw [tidF]
    split
    · split
      · refine Nat.le_trans (tidF_len n i _) ?_
        rw [List.length_eraseIdx]; split <;> omega
      · exact tidF_len n (i + 1) l
    · exact Nat.le_refl _
end Lum
namespace Go.Proofs.YtbamcfhmkohbmaaGreatDoor
open Go.RowKit Go.Shelf Lum
open Go.Lib (decDigits itoa)
attribute [local go_sem] bs_get bs_extract_end bs_extract_from bs_extract bs_append

end Go.Proofs.YtbamcfhmkohbmaaGreatDoor
