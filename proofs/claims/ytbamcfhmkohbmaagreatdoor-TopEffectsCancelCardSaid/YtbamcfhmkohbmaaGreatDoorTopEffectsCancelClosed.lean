/-
  TopEffectsCancel: the row's closed cells are what the program forces.
-/
import Derived.Test.YtbamcfhmkohbmaaGreatDoorRows
import Derived.ProofKit
import Derived.JoinedCond
namespace Go.Proofs.YtbamcfhmkohbmaaGreatDoor.topEffectsCancel
set_option maxRecDepth 100000 in
set_option maxHeartbeats 40000000 in
theorem closed : joinedFacts Tryz.pinned.checked.prog 13 Tryz.f13 (OpenSpec.ofChange Rows.topEffectsCancelSpec).bare Rows.topEffectsCancelRow = true := by
  simp only [joinedFacts, Bool.and_eq_true]
  repeat' apply And.intro
  all_goals (as_aux_lemma => kernel_rfl)
end Go.Proofs.YtbamcfhmkohbmaaGreatDoor.topEffectsCancel
