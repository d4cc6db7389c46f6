/-
  Calls of the run, each by itself. It proves nothing of the program by itself.
-/
import Derived.Test.YticbhhakdmoahaaGreatEvQ7D0
import Derived.Test.YticbhhakdmoahaaGreatEvSY4
set_option linter.unusedVariables false
set_option linter.unusedSimpArgs false
namespace Go.Proofs.YticbhhakdmoahaaGreat.EvQ7
open Go Go.Sl Go.Evl
theorem ck2 : CkOk2 evPar 84 ⟨k170, k200, k126, k206⟩ := ⟨10000000, by kernel_rfl⟩
theorem ck12 : CkOk2 evPar 84 ⟨k603, k636, k126, k642⟩ := ⟨10000000, by kernel_rfl⟩
theorem ck22 : CkOk2 evPar 84 ⟨k1060, k1095, k126, k1101⟩ := ⟨10000000, by kernel_rfl⟩
theorem ck32 : CkOk2 evPar 84 ⟨k1562, k1599, k126, k1605⟩ := ⟨10000000, by kernel_rfl⟩
theorem ck42 : CkOk2 evPar 84 ⟨k1612, k1877, k126, k1879⟩ := ⟨10000000, by kernel_rfl⟩
theorem ck52 : CkOk2 evPar 84 ⟨k2331, k2370, k1937, k2374⟩ := ⟨10000000, by kernel_rfl⟩
theorem ck62 : CkOk2 evPar 84 ⟨k2877, k3015, k126, k3017⟩ := ⟨10000000, by kernel_rfl⟩
end Go.Proofs.YticbhhakdmoahaaGreat.EvQ7
