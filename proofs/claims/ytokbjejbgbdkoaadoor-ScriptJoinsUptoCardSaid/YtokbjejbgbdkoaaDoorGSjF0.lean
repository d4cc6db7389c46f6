/-
  What the row says of the program, part by part.
-/
import Derived.Test.YtokbjejbgbdkoaaDoorRows
import Derived.JoinedOf
import Derived.RowKit
import Derived.KernelRfl
set_option linter.unusedVariables false
set_option linter.unusedSimpArgs false
namespace Go.Proofs.YtokbjejbgbdkoaaDoor.scriptJoins
open Go Go.ChangeShapes Go.WideShapes Go.RowKit
theorem jf0 : (Rows.scriptJoinsUptoRow.wf (OpenSpec.ofChange (Rows.OpenSpec.upto Rows.scriptJoinsSpec).bare)) = true := by kernel_rfl
theorem jf1 : (laidOutB Tryd.prog) = true := by kernel_rfl
theorem jf2 : (mapsRowed Tryd.prog) = true := by kernel_rfl
theorem jf3 : (Tryd.f4.params.all (Tryd.prog.readableRec ·)) = true := by kernel_rfl
theorem jf4 : (namedTie Tryd.prog Rows.scriptJoinsUptoRow.named (Rows.OpenSpec.upto Rows.scriptJoinsSpec).bare.vars) = true := by kernel_rfl
theorem jf5 : ((Rows.scriptJoinsUptoRow.stops == [])) = true := by kernel_rfl
theorem jf6 : ((Tryd.prog.stops == [])) = true := by kernel_rfl
theorem jf7 : ((Rows.scriptJoinsUptoRow.knobs == [])) = true := by kernel_rfl
theorem jf8 : ((Tryd.prog.stopKnobs == [])) = true := by kernel_rfl
theorem jf9 : ((Rows.scriptJoinsUptoRow.inPlace == Tryd.prog.inPlace 4)) = true := by kernel_rfl
theorem jf10 : ((Rows.scriptJoinsUptoRow.unfollowed == Tryd.prog.unfollowed 4)) = true := by kernel_rfl
theorem jf11 : ((Rows.scriptJoinsUptoRow.recurses == Tryd.prog.recurses 4)) = true := by kernel_rfl
theorem jf12 : ((Rows.scriptJoinsUptoRow.named == Tryd.prog.varsNamed 4)) = true := by kernel_rfl
theorem jf13 : ((Rows.scriptJoinsUptoRow.maps == (Tryd.f4.params.toList ++ (Rows.OpenSpec.upto Rows.scriptJoinsSpec).bare.plain.varTypes Tryd.prog).any (Tryd.prog.mapsRec ·))) = true := by kernel_rfl
theorem jf14 : ((Rows.scriptJoinsUptoRow.ifaces == (Tryd.f4.params.toList ++ (Rows.OpenSpec.upto Rows.scriptJoinsSpec).bare.plain.varTypes Tryd.prog).any (Tryd.prog.ifacesRec ·))) = true := by kernel_rfl
theorem jf15 : ((Rows.scriptJoinsUptoRow.mapsOut == Tryd.prog.mapsAmong Tryd.f4.resultTypes.toList)) = true := by kernel_rfl
theorem jf16 : ((Rows.scriptJoinsUptoRow.loops == (Tryd.f4.params.toList ++ (Rows.OpenSpec.upto Rows.scriptJoinsSpec).bare.plain.varTypes Tryd.prog).any (Tryd.prog.loopsFrom ·))) = true := by kernel_rfl
theorem jf17 : ((Rows.scriptJoinsUptoRow.wideKeys == (Tryd.f4.params.toList ++ (Rows.OpenSpec.upto Rows.scriptJoinsSpec).bare.plain.varTypes Tryd.prog ++ Tryd.f4.resultTypes.toList).any (Tryd.prog.wideKeysFrom ·))) = true := by kernel_rfl
theorem jf18 : ((Rows.OpenSpec.upto Rows.scriptJoinsSpec).bare.vars.all (Tryd.prog.varReadable ·)) = true := by kernel_rfl
theorem jf19 : (Tryd.f4.resultTypes.all (fun t => Tryd.prog.readableRec t && decide (t < Tryd.prog.types.size))) = true := by kernel_rfl
theorem jf20 : ((Rows.scriptJoinsUptoRow.ifacesOut == Tryd.f4.resultTypes.toList.any (Tryd.prog.ifacesRec ·))) = true := by kernel_rfl
theorem jf21 : ((Rows.scriptJoinsUptoRow.loopsOut == Tryd.f4.resultTypes.toList.any (Tryd.prog.loopsFrom ·))) = true := by kernel_rfl
theorem jf22 : ((Rows.scriptJoinsUptoRow.plainKeys == Tryd.prog.plainKeys)) = true := by kernel_rfl
theorem jf23 : (Rows.scriptJoinsUptoRow.shortTexts.isNone) = true := by kernel_rfl
theorem jf24 : (Tryd.prog.stopsHeard) = true := by kernel_rfl
theorem jf25 : (Tryd.prog.mayEnter) = true := by kernel_rfl
theorem jf26 : ((Rows.scriptJoinsUptoRow.lifted == Tryd.prog.liftsFinal)) = true := by kernel_rfl
theorem jf27 : ((Tryd.prog.make == some Rows.scriptJoinsUptoRow.make)) = true := by kernel_rfl
theorem jf29 : ((Rows.scriptJoinsUptoRow.pinned == Rows.scriptJoinsUptoRow.pinnedBy)) = true := by kernel_rfl
theorem jf30 : ((Rows.scriptJoinsUptoRow.veiled == (Tryd.f4.params.toList ++ (Rows.OpenSpec.upto Rows.scriptJoinsSpec).bare.plain.varTypes Tryd.prog ++ Tryd.f4.resultTypes.toList).any (Tryd.prog.veiledRec ·))) = true := by kernel_rfl
theorem jf31 : (Rows.scriptJoinsUptoRow.veiledFits Tryd.prog Tryd.f4.params.toList (Tryd.f4.params.toList ++ (Rows.OpenSpec.upto Rows.scriptJoinsSpec).bare.plain.varTypes Tryd.prog ++ Tryd.f4.resultTypes.toList)) = true := by kernel_rfl
end Go.Proofs.YtokbjejbgbdkoaaDoor.scriptJoins
namespace Go.Proofs.YtokbjejbgbdkoaaDoor.scriptJoins
open Go Go.ChangeShapes Go.WideShapes Go.RowKit
theorem andT {a b : Bool} (ha : a = true) (hb : b = true) : (a && b) = true := by rw [ha, hb]; rfl
theorem joined : joinedFacts Tryd.prog 4 Tryd.f4 (Rows.OpenSpec.upto Rows.scriptJoinsSpec).bare Rows.scriptJoinsUptoRow = true := by
  unfold joinedFacts
  refine (andT (andT (andT (andT (andT (andT (andT (andT (andT (andT (andT (andT (andT (andT (andT (andT (andT (andT (andT (andT (andT (andT (andT (andT (andT (andT (andT (andT (andT (andT (andT jf0 jf1) jf2) jf3) jf4) jf5) jf6) jf7) jf8) jf9) jf10) jf11) jf12) jf13) jf14) jf15) jf16) jf17) jf18) jf19) jf20) jf21) jf22) jf23) jf24) jf25) jf26) jf27) ?_) jf29) jf30) jf31)
  kernel_rfl
end Go.Proofs.YtokbjejbgbdkoaaDoor.scriptJoins
