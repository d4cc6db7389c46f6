/-
  Rounds of the loop. It proves nothing of the program by itself.
-/
import Derived.Test.YticbhhakdmoahaaGreatEvI6D
import Derived.KernelRfl
set_option linter.unusedVariables false
set_option linter.unusedSimpArgs false
namespace Go.Proofs.YticbhhakdmoahaaGreat.EvI6
open Go Go.Sl Go.Evl
theorem ch1 : (fun (Kx : CK) (L : En → Hp → Bool) => rnds EvQ6.evPar2 bd mk 72 Kx 1088 9997816 (en 1088) (hp (row 1088)) L) = fun _ L => L (en 2176) (hp (row 2176)) := by kernel_rfl
theorem ch3 : (fun (Kx : CK) (L : En → Hp → Bool) => rnds EvQ6.evPar2 bd mk 72 Kx 1088 9995640 (en 3264) (hp (row 3264)) L) = fun _ L => L (en 4352) (hp (row 4352)) := by kernel_rfl
theorem ch5 : (fun (Kx : CK) (L : En → Hp → Bool) => rnds EvQ6.evPar2 bd mk 72 Kx 1088 9993464 (en 5440) (hp (row 5440)) L) = fun _ L => L (en 6528) (hp (row 6528)) := by kernel_rfl
theorem ch7 : (fun (Kx : CK) (L : En → Hp → Bool) => rnds EvQ6.evPar2 bd mk 72 Kx 1088 9991288 (en 7616) (hp (row 7616)) L) = fun _ L => L (en 8704) (hp (row 8704)) := by kernel_rfl
theorem ch9 : (fun (Kx : CK) (L : En → Hp → Bool) => rnds EvQ6.evPar2 bd mk 72 Kx 1088 9989112 (en 9792) (hp (row 9792)) L) = fun _ L => L (en 10880) (hp (row 10880)) := by kernel_rfl
theorem ch11 : (fun (Kx : CK) (L : En → Hp → Bool) => rnds EvQ6.evPar2 bd mk 72 Kx 1088 9986936 (en 11968) (hp (row 11968)) L) = fun _ L => L (en 13056) (hp (row 13056)) := by kernel_rfl
theorem ch13 : (fun (Kx : CK) (L : En → Hp → Bool) => rnds EvQ6.evPar2 bd mk 72 Kx 1088 9984760 (en 14144) (hp (row 14144)) L) = fun _ L => L (en 15232) (hp (row 15232)) := by kernel_rfl
theorem ch15 : (fun (Kx : CK) (L : En → Hp → Bool) => rnds EvQ6.evPar2 bd mk 72 Kx 1088 9982584 (en 16320) (hp (row 16320)) L) = fun _ L => L (en 17408) (hp (row 17408)) := by kernel_rfl
theorem ch17 : (fun (Kx : CK) (L : En → Hp → Bool) => rnds EvQ6.evPar2 bd mk 72 Kx 1088 9980408 (en 18496) (hp (row 18496)) L) = fun _ L => L (en 19584) (hp (row 19584)) := by kernel_rfl
theorem ch19 : (fun (Kx : CK) (L : En → Hp → Bool) => rnds EvQ6.evPar2 bd mk 72 Kx 1088 9978232 (en 20672) (hp (row 20672)) L) = fun _ L => L (en 21760) (hp (row 21760)) := by kernel_rfl
end Go.Proofs.YticbhhakdmoahaaGreat.EvI6
