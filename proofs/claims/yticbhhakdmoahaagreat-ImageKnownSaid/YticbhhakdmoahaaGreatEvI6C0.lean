/-
  Rounds of the loop. It proves nothing of the program by itself.
-/
import Derived.Test.YticbhhakdmoahaaGreatEvI6D
import Derived.KernelRfl
set_option linter.unusedVariables false
set_option linter.unusedSimpArgs false
namespace Go.Proofs.YticbhhakdmoahaaGreat.EvI6
open Go Go.Sl Go.Evl
theorem ch0 : (fun (Kx : CK) (L : En → Hp → Bool) => rnds EvQ6.evPar2 bd mk 72 Kx 1088 9998904 en0 (hp r0) L) = fun _ L => L (en 1088) (hp (row 1088)) := by kernel_rfl
theorem ch2 : (fun (Kx : CK) (L : En → Hp → Bool) => rnds EvQ6.evPar2 bd mk 72 Kx 1088 9996728 (en 2176) (hp (row 2176)) L) = fun _ L => L (en 3264) (hp (row 3264)) := by kernel_rfl
theorem ch4 : (fun (Kx : CK) (L : En → Hp → Bool) => rnds EvQ6.evPar2 bd mk 72 Kx 1088 9994552 (en 4352) (hp (row 4352)) L) = fun _ L => L (en 5440) (hp (row 5440)) := by kernel_rfl
theorem ch6 : (fun (Kx : CK) (L : En → Hp → Bool) => rnds EvQ6.evPar2 bd mk 72 Kx 1088 9992376 (en 6528) (hp (row 6528)) L) = fun _ L => L (en 7616) (hp (row 7616)) := by kernel_rfl
theorem ch8 : (fun (Kx : CK) (L : En → Hp → Bool) => rnds EvQ6.evPar2 bd mk 72 Kx 1088 9990200 (en 8704) (hp (row 8704)) L) = fun _ L => L (en 9792) (hp (row 9792)) := by kernel_rfl
theorem ch10 : (fun (Kx : CK) (L : En → Hp → Bool) => rnds EvQ6.evPar2 bd mk 72 Kx 1088 9988024 (en 10880) (hp (row 10880)) L) = fun _ L => L (en 11968) (hp (row 11968)) := by kernel_rfl
theorem ch12 : (fun (Kx : CK) (L : En → Hp → Bool) => rnds EvQ6.evPar2 bd mk 72 Kx 1088 9985848 (en 13056) (hp (row 13056)) L) = fun _ L => L (en 14144) (hp (row 14144)) := by kernel_rfl
theorem ch14 : (fun (Kx : CK) (L : En → Hp → Bool) => rnds EvQ6.evPar2 bd mk 72 Kx 1088 9983672 (en 15232) (hp (row 15232)) L) = fun _ L => L (en 16320) (hp (row 16320)) := by kernel_rfl
theorem ch16 : (fun (Kx : CK) (L : En → Hp → Bool) => rnds EvQ6.evPar2 bd mk 72 Kx 1088 9981496 (en 17408) (hp (row 17408)) L) = fun _ L => L (en 18496) (hp (row 18496)) := by kernel_rfl
theorem ch18 : (fun (Kx : CK) (L : En → Hp → Bool) => rnds EvQ6.evPar2 bd mk 72 Kx 1088 9979320 (en 19584) (hp (row 19584)) L) = fun _ L => L (en 20672) (hp (row 20672)) := by kernel_rfl
end Go.Proofs.YticbhhakdmoahaaGreat.EvI6
