/-
  The run of awake, by the evaluator.
-/
import Derived.Test.YtokbjejbgbdkoaaGreatDoorGEvS5RP
import Derived.Test.YtokbjejbgbdkoaaGreatDoorGSrTab
set_option linter.unusedVariables false
set_option linter.unusedSimpArgs false
namespace Go.Proofs.YtokbjejbgbdkoaaGreatDoor.scriptReads
open Go Go.Sl Go.Evl
theorem runs : (fun (T1 T5 : Nat) (K : AV → List (Option Blk) → Bool) => callF (evC evPar 10000000) Tryz.prog evPar.msk evPar.orc 5 .nil (hGs (tabs T1 T5)) (fun v H => K v ((tabs T1 T5).map fun b => H.t.get (b.g + 1)))) =
    fun T1 T5 K => K (.b true) ((tabs T1 T5).map fun b => some b.blk) := by kernel_rfl
end Go.Proofs.YtokbjejbgbdkoaaGreatDoor.scriptReads
