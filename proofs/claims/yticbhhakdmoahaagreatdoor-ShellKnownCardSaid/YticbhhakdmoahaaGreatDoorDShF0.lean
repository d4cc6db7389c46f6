/-
  What the row says of the program, part by part.
-/
import Derived.Test.YticbhhakdmoahaaGreatDoorRows
import Derived.JoinedOf
import Derived.RowKit
import Derived.KernelRfl
set_option linter.unusedSimpArgs false
namespace Go.Proofs.YticbhhakdmoahaaGreatDoor.shellKnown
open Go Go.ChangeShapes Go.WideShapes Go.RowKit
set_option linter.unusedVariables false
theorem jf0 : (Rows.shellKnownRow.wf (OpenSpec.ofChange Rows.shellKnownSpec)) = true := by kernel_rfl
theorem jf4 : (namedTie Tryz.prog Rows.shellKnownRow.named Rows.shellKnownSpec.vars) = true := by kernel_rfl
theorem jf8 : ((Tryz.prog.stopKnobs == [])) = true := by kernel_rfl
theorem jf12 : ((Rows.shellKnownRow.named == Tryz.prog.varsNamed 4)) = true := by kernel_rfl
theorem jf16 : ((Rows.shellKnownRow.loops == (Tryz.f4.params.toList ++ Rows.shellKnownSpec.plain.varTypes Tryz.prog).any (Tryz.prog.loopsFrom ·))) = true := by kernel_rfl
theorem jf20 : ((Rows.shellKnownRow.ifacesOut == Tryz.f4.resultTypes.toList.any (Tryz.prog.ifacesRec ·))) = true := by kernel_rfl
theorem jf24 : (Tryz.prog.stopsHeard) = true := by kernel_rfl
end Go.Proofs.YticbhhakdmoahaaGreatDoor.shellKnown
