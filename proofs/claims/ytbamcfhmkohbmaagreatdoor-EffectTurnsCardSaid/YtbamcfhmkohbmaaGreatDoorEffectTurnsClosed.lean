/-
  EffectTurns: the row's closed cells are what the program forces.
-/
import Derived.Test.YtbamcfhmkohbmaaGreatDoorRows
import Derived.ProofKit
import Derived.JoinedCond
namespace Go.Proofs.YtbamcfhmkohbmaaGreatDoor.effectTurns
set_option maxRecDepth 100000 in
set_option maxHeartbeats 40000000 in
theorem closed : joinedFacts Tryz.pinned.checked.prog 6 Tryz.f6 (OpenSpec.ofChange Rows.effectTurnsSpec).bare Rows.effectTurnsRow = true := by
  simp only [joinedFacts, Bool.and_eq_true]
  repeat' apply And.intro
  all_goals (as_aux_lemma => kernel_rfl)
end Go.Proofs.YtbamcfhmkohbmaaGreatDoor.effectTurns
