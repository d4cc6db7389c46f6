/-
  The law's awake answers true.
-/
import Derived.Test.YtokbjejbgbdkoaaGreatGEvS5Z
set_option linter.unusedVariables false
set_option linter.unusedSimpArgs false
namespace Go.Proofs.YtokbjejbgbdkoaaGreat
open Go Go.Sl Go.Evl
theorem awake25_runs : callF (evC evPar 10000000) Tryz.prog evPar.msk evPar.orc 4 .nil h0 (fun v _ => asB v fun b => b) = true := by kernel_rfl
theorem awake25 : Ctr Tryz.prog 4 [] [] (fun v Ps => v = .bool true ∧ Ps = []) :=
  closed_true (p := evPar) evPar_ok awake25_runs ⟨Tryz.f4, Tryz.func4, rfl, rfl⟩
end Go.Proofs.YtokbjejbgbdkoaaGreat
