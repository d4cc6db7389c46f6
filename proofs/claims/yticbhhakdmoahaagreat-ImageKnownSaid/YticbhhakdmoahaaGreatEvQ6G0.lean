/-
  Calls of the run, each by itself. It proves nothing of the program by itself.
-/
import Derived.Test.YticbhhakdmoahaaGreatEvQ6D2
import Derived.Test.YticbhhakdmoahaaGreatEvSY4
set_option linter.unusedVariables false
set_option linter.unusedSimpArgs false
namespace Go.Proofs.YticbhhakdmoahaaGreat.EvQ6
open Go Go.Sl Go.Evl
theorem ck0 : CkOk2 evPar 28 ⟨k28, k68, k71, k1274⟩ := ⟨10000000, by kernel_rfl⟩
theorem ck3 : CkOk2 evPar 31 ⟨k1276, k2522, k2527, k3522⟩ := ⟨10000000, by kernel_rfl⟩
theorem ck6 : CkOk2 evPar 30 ⟨k5411, k5425, k5430, k6596⟩ := ⟨10000000, by kernel_rfl⟩
theorem ck9 : CkOk2 evPar 31 ⟨k5411, k7902, k7905, k9068⟩ := ⟨10000000, by kernel_rfl⟩
end Go.Proofs.YticbhhakdmoahaaGreat.EvQ6
