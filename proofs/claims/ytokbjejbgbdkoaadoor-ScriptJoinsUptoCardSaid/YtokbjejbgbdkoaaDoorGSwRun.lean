/-
  The run of awake, by the evaluator.
-/
import Derived.Test.YtokbjejbgbdkoaaDoorGEvS5DP
import Derived.Test.YtokbjejbgbdkoaaDoorGSwTab
set_option linter.unusedVariables false
set_option linter.unusedSimpArgs false
namespace Go.Proofs.YtokbjejbgbdkoaaDoor.scriptWords
open Go Go.Sl Go.Evl
theorem runs : (fun (T1 T5 : Nat) (K : AV → List (Option Blk) → Bool) => callF (evC evPar 10000000) Tryd.prog evPar.msk evPar.orc 7 .nil (hGs (tabs T1 T5)) (fun v H => K v ((tabs T1 T5).map fun b => H.t.get (b.g + 1)))) =
    fun T1 T5 K => K (.b true) ((tabs T1 T5).map fun b => some b.blk) := by kernel_rfl
end Go.Proofs.YtokbjejbgbdkoaaDoor.scriptWords
