/-
  Calls of the run, each by itself. It proves nothing of the program by itself.
-/
import Derived.Test.YticbhhakdmoahaaGreatEvQ7D0
import Derived.Test.YticbhhakdmoahaaGreatEvSY4
set_option linter.unusedVariables false
set_option linter.unusedSimpArgs false
namespace Go.Proofs.YticbhhakdmoahaaGreat.EvQ7
open Go Go.Sl Go.Evl
theorem ck4 : CkOk2 evPar 84 ⟨k253, k283, k126, k289⟩ := ⟨10000000, by kernel_rfl⟩
theorem ck14 : CkOk2 evPar 84 ⟨k691, k725, k126, k731⟩ := ⟨10000000, by kernel_rfl⟩
theorem ck24 : CkOk2 evPar 84 ⟨k1157, k1194, k126, k1200⟩ := ⟨10000000, by kernel_rfl⟩
theorem ck34 : CkOk2 evPar 84 ⟨k1661, k1700, k1705, k1711⟩ := ⟨10000000, by kernel_rfl⟩
theorem ck44 : CkOk2 evPar 84 ⟨k1942, k1982, k1937, k1984⟩ := ⟨10000000, by kernel_rfl⟩
theorem ck54 : CkOk2 evPar 84 ⟨k2425, k2468, k1937, k2472⟩ := ⟨10000000, by kernel_rfl⟩
end Go.Proofs.YticbhhakdmoahaaGreat.EvQ7
