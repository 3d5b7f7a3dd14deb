/-
  TopProgrammerRemembers: the row's closed cells are what the program forces.
-/
import Derived.Test.YtmjkenlifgmeeaaGreatDoorRows
import Derived.ProofKit
import Derived.JoinedCond
namespace Go.Proofs.YtmjkenlifgmeeaaGreatDoor.topProgrammerRemembers
set_option maxRecDepth 100000 in
set_option maxHeartbeats 40000000 in
theorem closed : joinedFacts Tryz.pinned.checked.prog 3 Tryz.f3 (OpenSpec.ofChange Rows.topProgrammerRemembersSpec).bare Rows.topProgrammerRemembersRow = true := by
  simp only [joinedFacts, Bool.and_eq_true]
  repeat' apply And.intro
  all_goals (as_aux_lemma => kernel_rfl)
end Go.Proofs.YtmjkenlifgmeeaaGreatDoor.topProgrammerRemembers
