/-
 Facts on the types of the program, each one closed equation. By program.
-/
import Derived.Test.YtlbebaipmgjdbaaGreatGSl12
import Derived.Test.YtlbebaipmgjdbaaGreatProg
import Derived.KernelRfl
import Derived.Test.YtlbebaipmgjdbaaGreatGSl9
set_option linter.unusedVariables false
set_option linter.unusedSimpArgs false
namespace Go.Proofs.YtlbebaipmgjdbaaGreat
open Go Go.Sl Go.Proofs
theorem sc_3 : Scalar Tryz.prog 3 := Scalar.of Tryz.underlying3 rfl
theorem ti_5 : TyInfo Tryz.prog 5 1 1 [.int .u8 0] := TyInfo.of (by kernel_rfl)
theorem ts_5 : TySize Tryz.prog 5 1 := ti_5.size
theorem sc_9 : Scalar Tryz.prog 9 := Scalar.of Tryz.underlying9 rfl
theorem ag_31 : IsAgg Tryz.prog 31 := IsAgg.of Tryz.underlying31 rfl
theorem ti_31 : TyInfo Tryz.prog 31 5 48 [.int .i64 0, .int .i64 0, .int .i64 0, .int .i64 0, strV []] := TyInfo.of (by kernel_rfl)
theorem ts_31 : TySize Tryz.prog 31 5 := ti_31.size
theorem fa_31_0 : FieldAt Tryz.prog 31 0 0 3 := FieldAt.of (by kernel_rfl)
theorem fa_31_1 : FieldAt Tryz.prog 31 1 1 3 := FieldAt.of (by kernel_rfl)
theorem fa_31_2 : FieldAt Tryz.prog 31 2 2 3 := FieldAt.of (by kernel_rfl)
theorem fa_31_3 : FieldAt Tryz.prog 31 3 3 3 := FieldAt.of (by kernel_rfl)
theorem fa_31_4 : FieldAt Tryz.prog 31 4 4 9 := FieldAt.of (by kernel_rfl)
theorem ti_45 : TyInfo Tryz.prog 45 1 8 [.pointer none] := TyInfo.of (by kernel_rfl)
theorem sc_57 : Scalar Tryz.prog 57 := Scalar.of Tryz.underlying57 rfl
theorem ti_57 : TyInfo Tryz.prog 57 1 24 [.slice none 0 0] := TyInfo.of (by kernel_rfl)
theorem ts_57 : TySize Tryz.prog 57 1 := ti_57.size
theorem ni_57 : ∃ d, Tryz.prog.underlying 57 = some d ∧ ∀ k, d ≠ .int k := notInt_of Tryz.underlying57 rfl
theorem ti_59 : TyInfo Tryz.prog 59 1 24 [.slice none 0 0] := TyInfo.of (by kernel_rfl)
theorem fa_59_0 : FieldAt Tryz.prog 59 0 0 57 := FieldAt.of (by kernel_rfl)
theorem pl_59 : Places Tryz.prog 59 [(0, 1)] := Places.of Tryz.underlying59 (by kernel_rfl)
theorem sc_60 : Scalar Tryz.prog 60 := Scalar.of Tryz.underlying60 rfl
theorem ti_60 : TyInfo Tryz.prog 60 1 24 [.slice none 0 0] := TyInfo.of (by kernel_rfl)
theorem ts_60 : TySize Tryz.prog 60 1 := ti_60.size
theorem ni_60 : ∃ d, Tryz.prog.underlying 60 = some d ∧ ∀ k, d ≠ .int k := notInt_of Tryz.underlying60 rfl
theorem mixed : Tryz.prog.follows .mixedOrders = true := by kernel_rfl
end Go.Proofs.YtlbebaipmgjdbaaGreat
