/-
  Calls of the run, each by itself. It proves nothing of the program by itself.
-/
import Derived.Test.YticbhhakdmoahaaGreatEvQ7D0
import Derived.Test.YticbhhakdmoahaaGreatEvSY4
set_option linter.unusedVariables false
set_option linter.unusedSimpArgs false
namespace Go.Proofs.YticbhhakdmoahaaGreat.EvQ7
open Go Go.Sl Go.Evl
theorem ck7 : CkOk2 evPar 84 ⟨k382, k416, k126, k422⟩ := ⟨10000000, by kernel_rfl⟩
theorem ck17 : CkOk2 evPar 84 ⟨k830, k863, k126, k869⟩ := ⟨10000000, by kernel_rfl⟩
theorem ck27 : CkOk2 evPar 84 ⟨k1306, k1343, k126, k1349⟩ := ⟨10000000, by kernel_rfl⟩
theorem ck37 : CkOk2 evPar 84 ⟨k1207, k1854, k126, k1856⟩ := ⟨10000000, by kernel_rfl⟩
theorem ck47 : CkOk2 evPar 84 ⟨k2088, k2128, k1937, k2132⟩ := ⟨10000000, by kernel_rfl⟩
theorem ck57 : CkOk2 evPar 84 ⟨k2574, k2617, k1937, k2621⟩ := ⟨10000000, by kernel_rfl⟩
end Go.Proofs.YticbhhakdmoahaaGreat.EvQ7
