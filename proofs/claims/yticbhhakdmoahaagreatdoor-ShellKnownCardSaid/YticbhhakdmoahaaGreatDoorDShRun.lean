/-
  The run of ShellKnown, by the evaluator.
-/
import Derived.Test.YticbhhakdmoahaaGreatDoorDEvSZDP
import Derived.Test.YticbhhakdmoahaaGreatDoorDEv16
set_option linter.unusedVariables false
set_option linter.unusedSimpArgs false
namespace Go.Proofs.YticbhhakdmoahaaGreatDoor.shellKnown
open Go Go.Sl Go.Evl
theorem runs : callF (evC evPar 10000000) Tryz.prog evPar.msk evPar.orc 4 .nil h0 (fun v _ => asB v fun b => b) = true := by kernel_rfl
end Go.Proofs.YticbhhakdmoahaaGreatDoor.shellKnown
