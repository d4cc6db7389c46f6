/-
  Calls of the run, each by itself. It proves nothing of the program by itself.
-/
import Derived.Test.YticbhhakdmoahaaGreatEvQ7D0
import Derived.Test.YticbhhakdmoahaaGreatEvSY4
set_option linter.unusedVariables false
set_option linter.unusedSimpArgs false
namespace Go.Proofs.YticbhhakdmoahaaGreat.EvQ7
open Go Go.Sl Go.Evl
theorem ck0 : CkOk2 evPar 84 ⟨k42, k124, k126, k128⟩ := ⟨10000000, by kernel_rfl⟩
theorem ck10 : CkOk2 evPar 84 ⟨k513, k545, k126, k551⟩ := ⟨10000000, by kernel_rfl⟩
theorem ck20 : CkOk2 evPar 84 ⟨k967, k1002, k126, k1008⟩ := ⟨10000000, by kernel_rfl⟩
theorem ck30 : CkOk2 evPar 84 ⟨k1462, k1499, k126, k1505⟩ := ⟨10000000, by kernel_rfl⟩
theorem ck40 : CkOk2 evPar 84 ⟨k1873, k1867, k1705, k1875⟩ := ⟨10000000, by kernel_rfl⟩
theorem ck50 : CkOk2 evPar 84 ⟨k2230, k2273, k1937, k2277⟩ := ⟨10000000, by kernel_rfl⟩
theorem ck60 : CkOk2 evPar 84 ⟨k2720, k2762, k2764, k2768⟩ := ⟨10000000, by kernel_rfl⟩
end Go.Proofs.YticbhhakdmoahaaGreat.EvQ7
