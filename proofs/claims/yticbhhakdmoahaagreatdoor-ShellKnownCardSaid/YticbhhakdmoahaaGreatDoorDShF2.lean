/-
  What the row says of the program, part by part.
-/
import Derived.Test.YticbhhakdmoahaaGreatDoorRows
import Derived.JoinedOf
import Derived.RowKit
import Derived.KernelRfl
set_option linter.unusedSimpArgs false
namespace Go.Proofs.YticbhhakdmoahaaGreatDoor.shellKnown
open Go Go.ChangeShapes Go.WideShapes Go.RowKit
set_option linter.unusedVariables false
theorem jf2 : (mapsRowed Tryz.prog) = true := by kernel_rfl
theorem jf6 : ((Tryz.prog.stops == [])) = true := by kernel_rfl
theorem jf10 : ((Rows.shellKnownRow.unfollowed == Tryz.prog.unfollowed 4)) = true := by kernel_rfl
theorem jf14 : ((Rows.shellKnownRow.ifaces == (Tryz.f4.params.toList ++ Rows.shellKnownSpec.plain.varTypes Tryz.prog).any (Tryz.prog.ifacesRec ·))) = true := by kernel_rfl
theorem jf18 : (Rows.shellKnownSpec.vars.all (Tryz.prog.varReadable ·)) = true := by kernel_rfl
theorem jf22 : ((Rows.shellKnownRow.plainKeys == Tryz.prog.plainKeys)) = true := by kernel_rfl
theorem jf26 : ((Rows.shellKnownRow.lifted == Tryz.prog.liftsFinal)) = true := by kernel_rfl
theorem jf30 : ((Rows.shellKnownRow.veiled == (Tryz.f4.params.toList ++ Rows.shellKnownSpec.plain.varTypes Tryz.prog ++ Tryz.f4.resultTypes.toList).any (Tryz.prog.veiledRec ·))) = true := by kernel_rfl
end Go.Proofs.YticbhhakdmoahaaGreatDoor.shellKnown
