/-
  Orders checked. It proves nothing of the program by itself.
-/
import Derived.Test.YtlbebaipmgjdbaaGreatGEvS6sP
import Derived.KernelRfl
set_option linter.unusedVariables false
set_option linter.unusedSimpArgs false
namespace Go.Proofs.YtlbebaipmgjdbaaGreat
open Go Go.Sl Go.Evl
theorem ords2 : (List.range' 150 74).all okF = true := by kernel_rfl
end Go.Proofs.YtlbebaipmgjdbaaGreat
