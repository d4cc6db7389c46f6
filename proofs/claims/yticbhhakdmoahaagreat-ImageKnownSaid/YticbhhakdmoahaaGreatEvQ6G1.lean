/-
  Calls of the run, each by itself. It proves nothing of the program by itself.
-/
import Derived.Test.YticbhhakdmoahaaGreatEvQ6D2
import Derived.Test.YticbhhakdmoahaaGreatEvSY4
set_option linter.unusedVariables false
set_option linter.unusedSimpArgs false
namespace Go.Proofs.YticbhhakdmoahaaGreat.EvQ6
open Go Go.Sl Go.Evl
theorem ck1 : CkOk2 evPar 50 ⟨k1276, k1287, k1295, k1723⟩ := ⟨10000000, by kernel_rfl⟩
theorem ck4 : CkOk2 evPar 76 ⟨k1276, k3536, k3540, k4464⟩ := ⟨10000000, by kernel_rfl⟩
theorem ck7 : CkOk2 evPar 30 ⟨k6600, k6624, k6629, k6704⟩ := ⟨10000000, by kernel_rfl⟩
end Go.Proofs.YticbhhakdmoahaaGreat.EvQ6
