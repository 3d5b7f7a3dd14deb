/-
  slices.IndexFunc and DeleteFunc at faders. The law SubmasterContinues.
-/
import Derived.Test.YtkjelfmgnkkijaaGreatDoorQfDl
import Derived.Test.YtkjelfmgnkkijaaGreatDoorQfSc
import Derived.Test.YtkjelfmgnkkijaaGreatDoorQfSg
import Derived.Test.YtkjelfmgnkkijaaGreatDoorQfSd
import Derived.Outline
import Derived.Deep.Cut
import Derived.Deep.DeepCutAuto
set_option linter.unusedVariables false
set_option linter.unusedSimpArgs false
namespace Go.Proofs.YtkjelfmgnkkijaaGreatDoor
open Go.RowKit Go.Shelf Lum
open Go.Lib (decDigits itoa)
attribute [local go_sem] bs_get bs_extract_end bs_extract_from bs_extract bs_append

end Go.Proofs.YtkjelfmgnkkijaaGreatDoor
namespace Lum
open Go Go.RowKit Go.Shelf
open Go.Lib (decDigits itoa)
/-- The other faders. -/
def othF (nu : Int) (l : List Fdr) : List Fdr := l.filter fun y => !(y.su == nu)
end Lum
namespace Go.Proofs.YtkjelfmgnkkijaaGreatDoor
open Go.RowKit Go.Shelf Lum
open Go.Lib (decDigits itoa)
attribute [local go_sem] bs_get bs_extract_end bs_extract_from bs_extract bs_append

theorem own_smove_all (nu pr t xo xi : Int) (inh : Bool) (gs : List Gn) (l : List Fdr) (gv lv : Value) (i : Nat) (hit : Bool) (w : World) (hv : GnsAt w gv gs) (hl : FdsAt w lv l) (hs : sbE ⟨nu, pr, inh, gs⟩ = 0) (hf : facE l = 0) (hlen : ∀ i, i < l.length → (fdv l i).fr.length ≤ 1000) (hm : mvIn t xo xi) (hb9 : Belongs (fun k => (fdv l k).su) l.length nu i hit) (hr : l.length < 16 ∨ hit = true) (env : Env w) :
    Calls Tryz.prog 32 #[.agg #[.int .i64 nu, .int .i64 pr, .bool (inh), gv], lv, .int .i64 t, .int .i64 xo, .int .i64 xi] w fun e w' => ∃ pp cc, e = .returned (.tuple #[.slice pp (insL l i hit (mvF nu inh l t xo xi hit)).length cc, .int .i64 0]) ∧ OwnR encF 6 w.heap.size 108 w' pp cc (insL l i hit (mvF nu inh l t xo xi hit)) ∧ Below w.heap.size w w' := by
  cases hit
  · exact own_smove_new nu pr t xo xi inh gs l gv lv i w hv hl hs hf hlen hm hb9 (by have := hr.resolve_right (by simp); omega) env
  · by_cases hz : lvlQ nu inh l t = 0
    · exact own_smove_zero nu pr t xo xi inh gs l gv lv i w hv hl hs hf hlen hm hb9 hz env
    · exact own_smove_on nu pr t xo xi inh gs l gv lv i w hv hl hs hf hlen hm hb9 hz env

end Go.Proofs.YtkjelfmgnkkijaaGreatDoor
