/-
  Calls of the run, each by itself. It proves nothing of the program by itself.
-/
import Derived.Test.YticbhhakdmoahaaGreatEvQ7D0
import Derived.Test.YticbhhakdmoahaaGreatEvSY4
set_option linter.unusedVariables false
set_option linter.unusedSimpArgs false
namespace Go.Proofs.YticbhhakdmoahaaGreat.EvQ7
open Go Go.Sl Go.Evl
theorem ck1 : CkOk2 evPar 84 ⟨k132, k164, k126, k166⟩ := ⟨10000000, by kernel_rfl⟩
theorem ck11 : CkOk2 evPar 84 ⟨k557, k590, k126, k596⟩ := ⟨10000000, by kernel_rfl⟩
theorem ck21 : CkOk2 evPar 84 ⟨k1015, k1050, k126, k1056⟩ := ⟨10000000, by kernel_rfl⟩
theorem ck31 : CkOk2 evPar 84 ⟨k1512, k1549, k126, k1555⟩ := ⟨10000000, by kernel_rfl⟩
theorem ck41 : CkOk2 evPar 84 ⟨k1661, k1875, k1705, k1877⟩ := ⟨10000000, by kernel_rfl⟩
theorem ck51 : CkOk2 evPar 84 ⟨k2280, k2324, k1937, k2328⟩ := ⟨10000000, by kernel_rfl⟩
theorem ck61 : CkOk2 evPar 84 ⟨k2775, k2864, k2764, k2870⟩ := ⟨10000000, by kernel_rfl⟩
end Go.Proofs.YticbhhakdmoahaaGreat.EvQ7
