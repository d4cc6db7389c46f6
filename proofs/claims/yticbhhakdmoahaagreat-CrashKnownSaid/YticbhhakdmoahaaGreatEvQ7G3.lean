/-
  Calls of the run, each by itself. It proves nothing of the program by itself.
-/
import Derived.Test.YticbhhakdmoahaaGreatEvQ7D0
import Derived.Test.YticbhhakdmoahaaGreatEvSY4
set_option linter.unusedVariables false
set_option linter.unusedSimpArgs false
namespace Go.Proofs.YticbhhakdmoahaaGreat.EvQ7
open Go Go.Sl Go.Evl
theorem ck3 : CkOk2 evPar 84 ⟨k212, k243, k126, k249⟩ := ⟨10000000, by kernel_rfl⟩
theorem ck13 : CkOk2 evPar 84 ⟨k649, k681, k126, k687⟩ := ⟨10000000, by kernel_rfl⟩
theorem ck23 : CkOk2 evPar 84 ⟨k1108, k1144, k126, k1150⟩ := ⟨10000000, by kernel_rfl⟩
theorem ck33 : CkOk2 evPar 84 ⟨k1612, k1648, k126, k1654⟩ := ⟨10000000, by kernel_rfl⟩
theorem ck43 : CkOk2 evPar 84 ⟨k1887, k1935, k1937, k1939⟩ := ⟨10000000, by kernel_rfl⟩
theorem ck53 : CkOk2 evPar 84 ⟨k2377, k2418, k1937, k2422⟩ := ⟨10000000, by kernel_rfl⟩
theorem ck63 : CkOk2 evPar 84 ⟨k3020, k3017, k126, k3022⟩ := ⟨10000000, by kernel_rfl⟩
end Go.Proofs.YticbhhakdmoahaaGreat.EvQ7
