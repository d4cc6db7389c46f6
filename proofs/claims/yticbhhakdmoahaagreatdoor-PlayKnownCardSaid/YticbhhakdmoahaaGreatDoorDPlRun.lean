/-
  The run of PlayKnown, by the evaluator.
-/
import Derived.Test.YticbhhakdmoahaaGreatDoorDEvQP
set_option linter.unusedVariables false
set_option linter.unusedSimpArgs false
namespace Go.Proofs.YticbhhakdmoahaaGreatDoor.playKnown
open Go Go.Sl Go.Evl
theorem runs : callF (evC EvQP.evPar2 10000000) Tryz.prog EvQP.evPar2.msk EvQP.evPar2.orc 3 .nil h0 (fun v _ => asB v fun b => b) = true := by kernel_rfl
end Go.Proofs.YticbhhakdmoahaaGreatDoor.playKnown
