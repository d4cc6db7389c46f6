/-
  Orders checked. It proves nothing of the program by itself.
-/
import Derived.Test.YtokbjejbgbdkoaaDoorGEvS5DP
import Derived.KernelRfl
set_option linter.unusedVariables false
set_option linter.unusedSimpArgs false
namespace Go.Proofs.YtokbjejbgbdkoaaDoor
open Go Go.Sl Go.Evl
theorem ords0 : (List.range' 0 127).all okF = true := by kernel_rfl
end Go.Proofs.YtokbjejbgbdkoaaDoor
