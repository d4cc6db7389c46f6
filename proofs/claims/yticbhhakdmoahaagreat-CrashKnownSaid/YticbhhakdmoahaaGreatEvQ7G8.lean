/-
  Calls of the run, each by itself. It proves nothing of the program by itself.
-/
import Derived.Test.YticbhhakdmoahaaGreatEvQ7D0
import Derived.Test.YticbhhakdmoahaaGreatEvSY4
set_option linter.unusedVariables false
set_option linter.unusedSimpArgs false
namespace Go.Proofs.YticbhhakdmoahaaGreat.EvQ7
open Go Go.Sl Go.Evl
theorem ck8 : CkOk2 evPar 84 ⟨k426, k457, k126, k463⟩ := ⟨10000000, by kernel_rfl⟩
theorem ck18 : CkOk2 evPar 84 ⟨k876, k914, k126, k918⟩ := ⟨10000000, by kernel_rfl⟩
theorem ck28 : CkOk2 evPar 84 ⟨k1356, k1396, k126, k1402⟩ := ⟨10000000, by kernel_rfl⟩
theorem ck38 : CkOk2 evPar 84 ⟨k1863, k1856, k1705, k1865⟩ := ⟨10000000, by kernel_rfl⟩
theorem ck48 : CkOk2 evPar 84 ⟨k2135, k2174, k1937, k2178⟩ := ⟨10000000, by kernel_rfl⟩
theorem ck58 : CkOk2 evPar 84 ⟨k2624, k2664, k1937, k2668⟩ := ⟨10000000, by kernel_rfl⟩
end Go.Proofs.YticbhhakdmoahaaGreat.EvQ7
