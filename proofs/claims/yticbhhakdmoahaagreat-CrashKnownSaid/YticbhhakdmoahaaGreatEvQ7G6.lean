/-
  Calls of the run, each by itself. It proves nothing of the program by itself.
-/
import Derived.Test.YticbhhakdmoahaaGreatEvQ7D0
import Derived.Test.YticbhhakdmoahaaGreatEvSY4
set_option linter.unusedVariables false
set_option linter.unusedSimpArgs false
namespace Go.Proofs.YticbhhakdmoahaaGreat.EvQ7
open Go Go.Sl Go.Evl
theorem ck6 : CkOk2 evPar 84 ⟨k337, k372, k126, k378⟩ := ⟨10000000, by kernel_rfl⟩
theorem ck16 : CkOk2 evPar 84 ⟨k785, k817, k126, k823⟩ := ⟨10000000, by kernel_rfl⟩
theorem ck26 : CkOk2 evPar 84 ⟨k1256, k1293, k126, k1299⟩ := ⟨10000000, by kernel_rfl⟩
theorem ck36 : CkOk2 evPar 84 ⟨k1852, k1845, k1705, k1854⟩ := ⟨10000000, by kernel_rfl⟩
theorem ck46 : CkOk2 evPar 84 ⟨k2034, k2081, k1937, k2085⟩ := ⟨10000000, by kernel_rfl⟩
theorem ck56 : CkOk2 evPar 84 ⟨k2522, k2567, k1937, k2571⟩ := ⟨10000000, by kernel_rfl⟩
end Go.Proofs.YticbhhakdmoahaaGreat.EvQ7
