/-
  Calls of the run, each by itself. It proves nothing of the program by itself.
-/
import Derived.Test.YticbhhakdmoahaaGreatEvQ6D2
import Derived.Test.YticbhhakdmoahaaGreatEvSY4
set_option linter.unusedVariables false
set_option linter.unusedSimpArgs false
namespace Go.Proofs.YticbhhakdmoahaaGreat.EvQ6
open Go Go.Sl Go.Evl
theorem ck2 : CkOk2 evPar 30 ⟨k1276, k1735, k1743, k2499⟩ := ⟨10000000, by kernel_rfl⟩
theorem ck5 : CkOk2 evPar 28 ⟨k4466, k4479, k4481, k5409⟩ := ⟨10000000, by kernel_rfl⟩
theorem ck8 : CkOk2 evPar 30 ⟨k5411, k6740, k6743, k7877⟩ := ⟨10000000, by kernel_rfl⟩
end Go.Proofs.YticbhhakdmoahaaGreat.EvQ6
