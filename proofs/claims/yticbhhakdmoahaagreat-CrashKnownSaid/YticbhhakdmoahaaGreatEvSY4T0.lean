/-
  Orders checked. It proves nothing of the program by itself.
-/
import Derived.Test.YticbhhakdmoahaaGreatEvSY4P
import Derived.KernelRfl
set_option linter.unusedVariables false
set_option linter.unusedSimpArgs false
namespace Go.Proofs.YticbhhakdmoahaaGreat
open Go Go.Sl Go.Evl
theorem ords0 : (List.range' 0 84).all okF = true := by kernel_rfl
end Go.Proofs.YticbhhakdmoahaaGreat
