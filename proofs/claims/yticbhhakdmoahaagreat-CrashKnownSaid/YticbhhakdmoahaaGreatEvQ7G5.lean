/-
  Calls of the run, each by itself. It proves nothing of the program by itself.
-/
import Derived.Test.YticbhhakdmoahaaGreatEvQ7D0
import Derived.Test.YticbhhakdmoahaaGreatEvSY4
set_option linter.unusedVariables false
set_option linter.unusedSimpArgs false
namespace Go.Proofs.YticbhhakdmoahaaGreat.EvQ7
open Go Go.Sl Go.Evl
theorem ck5 : CkOk2 evPar 84 ⟨k296, k327, k126, k333⟩ := ⟨10000000, by kernel_rfl⟩
theorem ck15 : CkOk2 evPar 84 ⟨k738, k772, k126, k778⟩ := ⟨10000000, by kernel_rfl⟩
theorem ck25 : CkOk2 evPar 84 ⟨k1207, k1243, k126, k1249⟩ := ⟨10000000, by kernel_rfl⟩
theorem ck35 : CkOk2 evPar 84 ⟨k1718, k1838, k1705, k1845⟩ := ⟨10000000, by kernel_rfl⟩
theorem ck45 : CkOk2 evPar 84 ⟨k1987, k2027, k1937, k2031⟩ := ⟨10000000, by kernel_rfl⟩
theorem ck55 : CkOk2 evPar 84 ⟨k2475, k2515, k1937, k2519⟩ := ⟨10000000, by kernel_rfl⟩
end Go.Proofs.YticbhhakdmoahaaGreat.EvQ7
