/-
  What the row says of the program, part by part.
-/
import Derived.Test.YticbhhakdmoahaaGreatDoorRows
import Derived.JoinedOf
import Derived.RowKit
import Derived.KernelRfl
set_option linter.unusedSimpArgs false
namespace Go.Proofs.YticbhhakdmoahaaGreatDoor.shellKnown
open Go Go.ChangeShapes Go.WideShapes Go.RowKit
set_option linter.unusedVariables false
theorem jf3 : (Tryz.f4.params.all (Tryz.prog.readableRec ·)) = true := by kernel_rfl
theorem jf7 : ((Rows.shellKnownRow.knobs == [])) = true := by kernel_rfl
theorem jf11 : ((Rows.shellKnownRow.recurses == Tryz.prog.recurses 4)) = true := by kernel_rfl
theorem jf15 : ((Rows.shellKnownRow.mapsOut == Tryz.prog.mapsAmong Tryz.f4.resultTypes.toList)) = true := by kernel_rfl
theorem jf19 : (Tryz.f4.resultTypes.all (fun t => Tryz.prog.readableRec t && decide (t < Tryz.prog.types.size))) = true := by kernel_rfl
theorem jf23 : (Rows.shellKnownRow.shortTexts.isNone) = true := by kernel_rfl
theorem jf27 : ((Tryz.prog.make == some Rows.shellKnownRow.make)) = true := by kernel_rfl
theorem jf31 : (Rows.shellKnownRow.veiledFits Tryz.prog Tryz.f4.params.toList (Tryz.f4.params.toList ++ Rows.shellKnownSpec.plain.varTypes Tryz.prog ++ Tryz.f4.resultTypes.toList)) = true := by kernel_rfl
end Go.Proofs.YticbhhakdmoahaaGreatDoor.shellKnown
