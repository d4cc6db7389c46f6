/-
 Facts on the types of the program, each one closed equation. By program.
-/
import Derived.Test.YtbbgajjonodlfaaGreatGSl12
import Derived.Test.YtbbgajjonodlfaaGreatProg
import Derived.KernelRfl
import Derived.Test.YtbbgajjonodlfaaGreatGSl9
set_option linter.unusedVariables false
set_option linter.unusedSimpArgs false
namespace Go.Proofs.YtbbgajjonodlfaaGreat
open Go Go.Sl Go.Proofs
theorem sc_3 : Scalar Tryz.prog 3 := Scalar.of Tryz.underlying3 rfl
theorem ti_3 : TyInfo Tryz.prog 3 1 8 [.int .i64 0] := TyInfo.of (by kernel_rfl)
theorem ts_3 : TySize Tryz.prog 3 1 := ti_3.size
theorem sc_4 : Scalar Tryz.prog 4 := Scalar.of Tryz.underlying4 rfl
theorem ti_4 : TyInfo Tryz.prog 4 1 1 [.bool false] := TyInfo.of (by kernel_rfl)
theorem ts_4 : TySize Tryz.prog 4 1 := ti_4.size
theorem sc_5 : Scalar Tryz.prog 5 := Scalar.of Tryz.underlying5 rfl
theorem ti_5 : TyInfo Tryz.prog 5 1 1 [.int .u8 0] := TyInfo.of (by kernel_rfl)
theorem ts_5 : TySize Tryz.prog 5 1 := ti_5.size
theorem sc_9 : Scalar Tryz.prog 9 := Scalar.of Tryz.underlying9 rfl
theorem ti_9 : TyInfo Tryz.prog 9 1 16 [strV []] := TyInfo.of (by kernel_rfl)
theorem ts_9 : TySize Tryz.prog 9 1 := ti_9.size
theorem ag_38 : IsAgg Tryz.prog 38 := IsAgg.of Tryz.underlying38 rfl
theorem ti_38 : TyInfo Tryz.prog 38 6 56 [.int .i64 0, .int .i64 0, .int .i64 0, .int .i64 0, .int .i64 0, strV []] := TyInfo.of (by kernel_rfl)
theorem ts_38 : TySize Tryz.prog 38 6 := ti_38.size
theorem fa_38_0 : FieldAt Tryz.prog 38 0 0 3 := FieldAt.of (by kernel_rfl)
theorem fa_38_1 : FieldAt Tryz.prog 38 1 1 3 := FieldAt.of (by kernel_rfl)
theorem fa_38_2 : FieldAt Tryz.prog 38 2 2 3 := FieldAt.of (by kernel_rfl)
theorem fa_38_3 : FieldAt Tryz.prog 38 3 3 3 := FieldAt.of (by kernel_rfl)
theorem fa_38_4 : FieldAt Tryz.prog 38 4 4 3 := FieldAt.of (by kernel_rfl)
theorem fa_38_5 : FieldAt Tryz.prog 38 5 5 9 := FieldAt.of (by kernel_rfl)
theorem ni_45 : ∃ d, Tryz.prog.underlying 45 = some d ∧ ∀ k, d ≠ .int k := notInt_of Tryz.underlying45 rfl
theorem ag_49 : IsAgg Tryz.prog 49 := IsAgg.of Tryz.underlying49 rfl
theorem ti_49 : TyInfo Tryz.prog 49 3 32 [strV [], .int .i64 0, .int .i64 0] := TyInfo.of (by kernel_rfl)
theorem ts_49 : TySize Tryz.prog 49 3 := ti_49.size
theorem fa_49_0 : FieldAt Tryz.prog 49 0 0 9 := FieldAt.of (by kernel_rfl)
theorem fa_49_1 : FieldAt Tryz.prog 49 1 1 3 := FieldAt.of (by kernel_rfl)
theorem fa_49_2 : FieldAt Tryz.prog 49 2 2 3 := FieldAt.of (by kernel_rfl)
theorem pl_49 : Places Tryz.prog 49 [(0, 1), (1, 1), (2, 1)] := Places.of Tryz.underlying49 (by kernel_rfl)
theorem sc_57 : Scalar Tryz.prog 57 := Scalar.of Tryz.underlying57 rfl
theorem ti_57 : TyInfo Tryz.prog 57 1 24 [.slice none 0 0] := TyInfo.of (by kernel_rfl)
theorem ts_57 : TySize Tryz.prog 57 1 := ti_57.size
theorem ni_57 : ∃ d, Tryz.prog.underlying 57 = some d ∧ ∀ k, d ≠ .int k := notInt_of Tryz.underlying57 rfl
theorem sc_61 : Scalar Tryz.prog 61 := Scalar.of Tryz.underlying61 rfl
theorem ti_61 : TyInfo Tryz.prog 61 1 24 [.slice none 0 0] := TyInfo.of (by kernel_rfl)
theorem ts_61 : TySize Tryz.prog 61 1 := ti_61.size
theorem ni_61 : ∃ d, Tryz.prog.underlying 61 = some d ∧ ∀ k, d ≠ .int k := notInt_of Tryz.underlying61 rfl
theorem ti_63 : TyInfo Tryz.prog 63 1 24 [.slice none 0 0] := TyInfo.of (by kernel_rfl)
theorem fa_63_0 : FieldAt Tryz.prog 63 0 0 61 := FieldAt.of (by kernel_rfl)
theorem pl_63 : Places Tryz.prog 63 [(0, 1)] := Places.of Tryz.underlying63 (by kernel_rfl)
theorem sc_68 : Scalar Tryz.prog 68 := Scalar.of Tryz.underlying68 rfl
theorem ag_70 : IsAgg Tryz.prog 70 := IsAgg.of Tryz.underlying70 rfl
theorem ti_70 : TyInfo Tryz.prog 70 24 256 [strV [], .int .i64 0, .int .i64 0, strV [], .int .i64 0, .int .i64 0, strV [], .int .i64 0, .int .i64 0, strV [], .int .i64 0, .int .i64 0, strV [], .int .i64 0, .int .i64 0, strV [], .int .i64 0, .int .i64 0, strV [], .int .i64 0, .int .i64 0, strV [], .int .i64 0, .int .i64 0] := TyInfo.of (by kernel_rfl)
theorem ts_70 : TySize Tryz.prog 70 24 := ti_70.size
theorem ti_72 : TyInfo Tryz.prog 72 26 280 [.nilIface, .int .i64 0, strV [], .int .i64 0, .int .i64 0, strV [], .int .i64 0, .int .i64 0, strV [], .int .i64 0, .int .i64 0, strV [], .int .i64 0, .int .i64 0, strV [], .int .i64 0, .int .i64 0, strV [], .int .i64 0, .int .i64 0, strV [], .int .i64 0, .int .i64 0, strV [], .int .i64 0, .int .i64 0] := TyInfo.of (by kernel_rfl)
theorem fa_72_0 : FieldAt Tryz.prog 72 0 0 68 := FieldAt.of (by kernel_rfl)
theorem fa_72_1 : FieldAt Tryz.prog 72 1 1 3 := FieldAt.of (by kernel_rfl)
theorem fa_72_2 : FieldAt Tryz.prog 72 2 2 70 := FieldAt.of (by kernel_rfl)
theorem pl_72 : Places Tryz.prog 72 [(0, 1), (1, 1), (2, 24)] := Places.of Tryz.underlying72 (by kernel_rfl)
theorem ni_76 : ∃ d, Tryz.prog.underlying 76 = some d ∧ ∀ k, d ≠ .int k := notInt_of Tryz.underlying76 rfl
theorem ag_79 : IsAgg Tryz.prog 79 := IsAgg.of Tryz.underlying79 rfl
theorem ti_79 : TyInfo Tryz.prog 79 4 40 [strV [], .int .i64 0, .int .i64 0, .int .i64 0] := TyInfo.of (by kernel_rfl)
theorem ts_79 : TySize Tryz.prog 79 4 := ti_79.size
theorem fa_79_0 : FieldAt Tryz.prog 79 0 0 9 := FieldAt.of (by kernel_rfl)
theorem fa_79_1 : FieldAt Tryz.prog 79 1 1 3 := FieldAt.of (by kernel_rfl)
theorem fa_79_2 : FieldAt Tryz.prog 79 2 2 3 := FieldAt.of (by kernel_rfl)
theorem fa_79_3 : FieldAt Tryz.prog 79 3 3 3 := FieldAt.of (by kernel_rfl)
theorem pl_79 : Places Tryz.prog 79 [(0, 1), (1, 1), (2, 1), (3, 1)] := Places.of Tryz.underlying79 (by kernel_rfl)
theorem ti_101 : TyInfo Tryz.prog 101 1 8 [.pointer none] := TyInfo.of (by kernel_rfl)
theorem mixed : Tryz.prog.follows .mixedOrders = true := by kernel_rfl
end Go.Proofs.YtbbgajjonodlfaaGreat
