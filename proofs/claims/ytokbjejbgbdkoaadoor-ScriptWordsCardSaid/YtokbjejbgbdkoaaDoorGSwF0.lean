/-
  What the row says of the program, part by part.
-/
import Derived.Test.YtokbjejbgbdkoaaDoorRows
import Derived.JoinedOf
import Derived.RowKit
import Derived.KernelRfl
set_option linter.unusedSimpArgs false
namespace Go.Proofs.YtokbjejbgbdkoaaDoor.scriptWords
open Go Go.ChangeShapes Go.WideShapes Go.RowKit
set_option linter.unusedVariables false
theorem jf0 : (Rows.scriptWordsRow.wf (OpenSpec.ofChange Rows.scriptWordsSpec)) = true := by kernel_rfl
theorem jf1 : (laidOutB Tryd.prog) = true := by kernel_rfl
theorem jf2 : (mapsRowed Tryd.prog) = true := by kernel_rfl
theorem jf3 : (Tryd.f3.params.all (Tryd.prog.readableRec ·)) = true := by kernel_rfl
theorem jf4 : (namedTie Tryd.prog Rows.scriptWordsRow.named Rows.scriptWordsSpec.vars) = true := by kernel_rfl
theorem jf5 : ((Rows.scriptWordsRow.stops == [])) = true := by kernel_rfl
theorem jf6 : ((Tryd.prog.stops == [])) = true := by kernel_rfl
theorem jf7 : ((Rows.scriptWordsRow.knobs == [])) = true := by kernel_rfl
theorem jf8 : ((Tryd.prog.stopKnobs == [])) = true := by kernel_rfl
theorem jf9 : ((Rows.scriptWordsRow.inPlace == Tryd.prog.inPlace 3)) = true := by kernel_rfl
theorem jf10 : ((Rows.scriptWordsRow.unfollowed == Tryd.prog.unfollowed 3)) = true := by kernel_rfl
theorem jf11 : ((Rows.scriptWordsRow.recurses == Tryd.prog.recurses 3)) = true := by kernel_rfl
theorem jf12 : ((Rows.scriptWordsRow.named == Tryd.prog.varsNamed 3)) = true := by kernel_rfl
theorem jf13 : ((Rows.scriptWordsRow.maps == (Tryd.f3.params.toList ++ Rows.scriptWordsSpec.plain.varTypes Tryd.prog).any (Tryd.prog.mapsRec ·))) = true := by kernel_rfl
theorem jf14 : ((Rows.scriptWordsRow.ifaces == (Tryd.f3.params.toList ++ Rows.scriptWordsSpec.plain.varTypes Tryd.prog).any (Tryd.prog.ifacesRec ·))) = true := by kernel_rfl
theorem jf15 : ((Rows.scriptWordsRow.mapsOut == Tryd.prog.mapsAmong Tryd.f3.resultTypes.toList)) = true := by kernel_rfl
theorem jf16 : ((Rows.scriptWordsRow.loops == (Tryd.f3.params.toList ++ Rows.scriptWordsSpec.plain.varTypes Tryd.prog).any (Tryd.prog.loopsFrom ·))) = true := by kernel_rfl
theorem jf17 : ((Rows.scriptWordsRow.wideKeys == (Tryd.f3.params.toList ++ Rows.scriptWordsSpec.plain.varTypes Tryd.prog ++ Tryd.f3.resultTypes.toList).any (Tryd.prog.wideKeysFrom ·))) = true := by kernel_rfl
theorem jf18 : (Rows.scriptWordsSpec.vars.all (Tryd.prog.varReadable ·)) = true := by kernel_rfl
theorem jf19 : (Tryd.f3.resultTypes.all (fun t => Tryd.prog.readableRec t && decide (t < Tryd.prog.types.size))) = true := by kernel_rfl
theorem jf20 : ((Rows.scriptWordsRow.ifacesOut == Tryd.f3.resultTypes.toList.any (Tryd.prog.ifacesRec ·))) = true := by kernel_rfl
theorem jf21 : ((Rows.scriptWordsRow.loopsOut == Tryd.f3.resultTypes.toList.any (Tryd.prog.loopsFrom ·))) = true := by kernel_rfl
theorem jf22 : ((Rows.scriptWordsRow.plainKeys == Tryd.prog.plainKeys)) = true := by kernel_rfl
theorem jf23 : (Rows.scriptWordsRow.shortTexts.isNone) = true := by kernel_rfl
theorem jf24 : (Tryd.prog.stopsHeard) = true := by kernel_rfl
theorem jf25 : (Tryd.prog.mayEnter) = true := by kernel_rfl
theorem jf26 : ((Rows.scriptWordsRow.lifted == Tryd.prog.liftsFinal)) = true := by kernel_rfl
theorem jf27 : ((Tryd.prog.make == some Rows.scriptWordsRow.make)) = true := by kernel_rfl
theorem jf29 : ((Rows.scriptWordsRow.pinned == Rows.scriptWordsRow.pinnedBy)) = true := by kernel_rfl
theorem jf30 : ((Rows.scriptWordsRow.veiled == (Tryd.f3.params.toList ++ Rows.scriptWordsSpec.plain.varTypes Tryd.prog ++ Tryd.f3.resultTypes.toList).any (Tryd.prog.veiledRec ·))) = true := by kernel_rfl
theorem jf31 : (Rows.scriptWordsRow.veiledFits Tryd.prog Tryd.f3.params.toList (Tryd.f3.params.toList ++ Rows.scriptWordsSpec.plain.varTypes Tryd.prog ++ Tryd.f3.resultTypes.toList)) = true := by kernel_rfl
end Go.Proofs.YtokbjejbgbdkoaaDoor.scriptWords
