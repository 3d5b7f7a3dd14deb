/-
  ProgrammerForgets: the row's closed cells are what the program forces.
-/
import Derived.Test.YtknlohmkachbmaaGreatDoorRows
import Derived.ProofKit
import Derived.JoinedCond
namespace Go.Proofs.YtknlohmkachbmaaGreatDoor.programmerForgets
set_option maxRecDepth 100000 in
set_option maxHeartbeats 40000000 in
theorem closed : joinedFacts Tryz.pinned.checked.prog 9 Tryz.f9 (OpenSpec.ofChange Rows.programmerForgetsSpec).bare Rows.programmerForgetsRow = true := by
  simp only [joinedFacts, Bool.and_eq_true]
  repeat' apply And.intro
  all_goals (as_aux_lemma => kernel_rfl)
end Go.Proofs.YtknlohmkachbmaaGreatDoor.programmerForgets
