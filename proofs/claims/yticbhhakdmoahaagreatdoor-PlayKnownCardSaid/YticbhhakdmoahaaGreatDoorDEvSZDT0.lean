/-
  Orders checked. It proves nothing of the program by itself.
-/
import Derived.Test.YticbhhakdmoahaaGreatDoorDEvSZDP
import Derived.KernelRfl
set_option linter.unusedVariables false
set_option linter.unusedSimpArgs false
namespace Go.Proofs.YticbhhakdmoahaaGreatDoor
open Go Go.Sl Go.Evl
theorem ords0 : (List.range' 0 136).all okF = true := by kernel_rfl
end Go.Proofs.YticbhhakdmoahaaGreatDoor
