/-
  TopMastersProduct: the row's closed cells are what the program forces.
-/
import Derived.Test.YtkjelfmgnkkijaaGreatDoorRows
import Derived.ProofKit
import Derived.JoinedCond
namespace Go.Proofs.YtkjelfmgnkkijaaGreatDoor.topMastersProduct
set_option maxRecDepth 100000 in
set_option maxHeartbeats 40000000 in
theorem closed : joinedFacts Tryz.pinned.checked.prog 15 Tryz.f15 (OpenSpec.ofChange Rows.topMastersProductSpec).bare Rows.topMastersProductRow = true := by
  simp only [joinedFacts, Bool.and_eq_true]
  repeat' apply And.intro
  all_goals (as_aux_lemma => kernel_rfl)
end Go.Proofs.YtkjelfmgnkkijaaGreatDoor.topMastersProduct
