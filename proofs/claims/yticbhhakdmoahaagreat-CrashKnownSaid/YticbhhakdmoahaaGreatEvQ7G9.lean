/-
  Calls of the run, each by itself. It proves nothing of the program by itself.
-/
import Derived.Test.YticbhhakdmoahaaGreatEvQ7D0
import Derived.Test.YticbhhakdmoahaaGreatEvSY4
set_option linter.unusedVariables false
set_option linter.unusedSimpArgs false
namespace Go.Proofs.YticbhhakdmoahaaGreat.EvQ7
open Go Go.Sl Go.Evl
theorem ck9 : CkOk2 evPar 84 ⟨k470, k501, k126, k507⟩ := ⟨10000000, by kernel_rfl⟩
theorem ck19 : CkOk2 evPar 84 ⟨k922, k954, k126, k960⟩ := ⟨10000000, by kernel_rfl⟩
theorem ck29 : CkOk2 evPar 84 ⟨k1409, k1449, k126, k1455⟩ := ⟨10000000, by kernel_rfl⟩
theorem ck39 : CkOk2 evPar 84 ⟨k1562, k1865, k126, k1867⟩ := ⟨10000000, by kernel_rfl⟩
theorem ck49 : CkOk2 evPar 84 ⟨k2181, k2223, k1937, k2227⟩ := ⟨10000000, by kernel_rfl⟩
theorem ck59 : CkOk2 evPar 84 ⟨k2671, k2713, k1937, k2717⟩ := ⟨10000000, by kernel_rfl⟩
end Go.Proofs.YticbhhakdmoahaaGreat.EvQ7
