/-
  What the row says of the program, part by part.
-/
import Derived.Test.YticbhhakdmoahaaGreatDoorRows
import Derived.JoinedOf
import Derived.RowKit
import Derived.KernelRfl
set_option linter.unusedSimpArgs false
namespace Go.Proofs.YticbhhakdmoahaaGreatDoor.shellKnown
open Go Go.ChangeShapes Go.WideShapes Go.RowKit
set_option linter.unusedVariables false
theorem jf1 : (laidOutB Tryz.prog) = true := by kernel_rfl
theorem jf5 : ((Rows.shellKnownRow.stops == [])) = true := by kernel_rfl
theorem jf9 : ((Rows.shellKnownRow.inPlace == Tryz.prog.inPlace 4)) = true := by kernel_rfl
theorem jf13 : ((Rows.shellKnownRow.maps == (Tryz.f4.params.toList ++ Rows.shellKnownSpec.plain.varTypes Tryz.prog).any (Tryz.prog.mapsRec ·))) = true := by kernel_rfl
theorem jf17 : ((Rows.shellKnownRow.wideKeys == (Tryz.f4.params.toList ++ Rows.shellKnownSpec.plain.varTypes Tryz.prog ++ Tryz.f4.resultTypes.toList).any (Tryz.prog.wideKeysFrom ·))) = true := by kernel_rfl
theorem jf21 : ((Rows.shellKnownRow.loopsOut == Tryz.f4.resultTypes.toList.any (Tryz.prog.loopsFrom ·))) = true := by kernel_rfl
theorem jf25 : (Tryz.prog.mayEnter) = true := by kernel_rfl
theorem jf29 : ((Rows.shellKnownRow.pinned == Rows.shellKnownRow.pinnedBy)) = true := by kernel_rfl
end Go.Proofs.YticbhhakdmoahaaGreatDoor.shellKnown
