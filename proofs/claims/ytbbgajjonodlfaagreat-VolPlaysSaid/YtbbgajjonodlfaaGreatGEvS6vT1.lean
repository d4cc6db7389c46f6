/-
  Orders checked. It proves nothing of the program by itself.
-/
import Derived.Test.YtbbgajjonodlfaaGreatGEvS6vP
import Derived.KernelRfl
set_option linter.unusedVariables false
set_option linter.unusedSimpArgs false
namespace Go.Proofs.YtbbgajjonodlfaaGreat
open Go Go.Sl Go.Evl
theorem ords1 : (List.range' 91 93).all okF = true := by kernel_rfl
end Go.Proofs.YtbbgajjonodlfaaGreat
