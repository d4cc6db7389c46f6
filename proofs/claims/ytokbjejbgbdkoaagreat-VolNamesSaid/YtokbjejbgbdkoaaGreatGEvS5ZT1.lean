/-
  Orders checked. It proves nothing of the program by itself.
-/
import Derived.Test.YtokbjejbgbdkoaaGreatGEvS5ZP
import Derived.KernelRfl
set_option linter.unusedVariables false
set_option linter.unusedSimpArgs false
namespace Go.Proofs.YtokbjejbgbdkoaaGreat
open Go Go.Sl Go.Evl
theorem ords1 : (List.range' 79 76).all okF = true := by kernel_rfl
end Go.Proofs.YtokbjejbgbdkoaaGreat
