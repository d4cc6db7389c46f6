/-
  A call of the run, by itself. It proves nothing of the program by itself.
-/
import Derived.Test.YticbhhakdmoahaaGreatEvQ4D2
import Derived.Test.YticbhhakdmoahaaGreatEvSY4
set_option linter.unusedVariables false
set_option linter.unusedSimpArgs false
namespace Go.Proofs.YticbhhakdmoahaaGreat.EvQ4
open Go Go.Sl Go.Evl
theorem ck4 : CkOk evPar 19 ⟨k6046, k6059, k6062, k7783⟩ := ⟨10000000, by kernel_rfl⟩
end Go.Proofs.YticbhhakdmoahaaGreat.EvQ4
