/-
  TopLooksChain: the row's closed cells are what the program forces.
-/
import Derived.Test.YtikogofioggmlaaGreatDoorRows
import Derived.ProofKit
import Derived.JoinedCond
namespace Go.Proofs.YtikogofioggmlaaGreatDoor.topLooksChain
set_option maxRecDepth 100000 in
set_option maxHeartbeats 40000000 in
theorem closed : joinedFacts Tryz.pinned.checked.prog 3 Tryz.f3 (OpenSpec.ofChange Rows.topLooksChainSpec).bare Rows.topLooksChainRow = true := by
  simp only [joinedFacts, Bool.and_eq_true]
  repeat' apply And.intro
  all_goals (as_aux_lemma => kernel_rfl)
end Go.Proofs.YtikogofioggmlaaGreatDoor.topLooksChain
