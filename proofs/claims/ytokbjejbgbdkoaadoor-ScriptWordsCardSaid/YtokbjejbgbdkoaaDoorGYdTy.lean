/-
  Facts on the types of the program, each one closed equation. By program.
-/
import Derived.Test.YtokbjejbgbdkoaaDoorProg
import Derived.KernelRfl
import Derived.Test.YtokbjejbgbdkoaaDoorGSl9
set_option linter.unusedVariables false
set_option linter.unusedSimpArgs false
namespace Go.Proofs.YtokbjejbgbdkoaaDoor
open Go Go.Sl Go.Proofs
theorem sc_1 : Scalar Tryd.prog 1 := Scalar.of Tryd.underlying1 rfl
theorem ti_1 : TyInfo Tryd.prog 1 1 8 [.nilFunc] := TyInfo.of (by kernel_rfl)
theorem ts_1 : TySize Tryd.prog 1 1 := ti_1.size
theorem ni_1 : ∃ d, Tryd.prog.underlying 1 = some d ∧ ∀ k, d ≠ .int k := notInt_of Tryd.underlying1 rfl
theorem sc_2 : Scalar Tryd.prog 2 := Scalar.of Tryd.underlying2 rfl
theorem ti_2 : TyInfo Tryd.prog 2 1 8 [.int .i64 0] := TyInfo.of (by kernel_rfl)
theorem ts_2 : TySize Tryd.prog 2 1 := ti_2.size
theorem sc_3 : Scalar Tryd.prog 3 := Scalar.of Tryd.underlying3 rfl
theorem ti_3 : TyInfo Tryd.prog 3 1 8 [.int .i64 0] := TyInfo.of (by kernel_rfl)
theorem ts_3 : TySize Tryd.prog 3 1 := ti_3.size
theorem sc_4 : Scalar Tryd.prog 4 := Scalar.of Tryd.underlying4 rfl
theorem ti_4 : TyInfo Tryd.prog 4 1 1 [.bool false] := TyInfo.of (by kernel_rfl)
theorem ts_4 : TySize Tryd.prog 4 1 := ti_4.size
theorem ni_4 : ∃ d, Tryd.prog.underlying 4 = some d ∧ ∀ k, d ≠ .int k := notInt_of Tryd.underlying4 rfl
theorem sc_5 : Scalar Tryd.prog 5 := Scalar.of Tryd.underlying5 rfl
theorem ti_5 : TyInfo Tryd.prog 5 1 1 [.int .u8 0] := TyInfo.of (by kernel_rfl)
theorem ts_5 : TySize Tryd.prog 5 1 := ti_5.size
theorem sc_6 : Scalar Tryd.prog 6 := Scalar.of Tryd.underlying6 rfl
theorem ti_6 : TyInfo Tryd.prog 6 1 1 [.int .u8 0] := TyInfo.of (by kernel_rfl)
theorem ts_6 : TySize Tryd.prog 6 1 := ti_6.size
theorem ag_7 : IsAgg Tryd.prog 7 := IsAgg.of Tryd.underlying7 rfl
theorem ti_7 : TyInfo Tryd.prog 7 4 24 [.int .i64 0, .int .i64 0, .bool false, .int .u8 0] := TyInfo.of (by kernel_rfl)
theorem ts_7 : TySize Tryd.prog 7 4 := ti_7.size
theorem fa_7_0 : FieldAt Tryd.prog 7 0 0 2 := FieldAt.of (by kernel_rfl)
theorem fa_7_1 : FieldAt Tryd.prog 7 1 1 3 := FieldAt.of (by kernel_rfl)
theorem fa_7_2 : FieldAt Tryd.prog 7 2 2 4 := FieldAt.of (by kernel_rfl)
theorem fa_7_3 : FieldAt Tryd.prog 7 3 3 6 := FieldAt.of (by kernel_rfl)
theorem pl_7 : Places Tryd.prog 7 [(0, 1), (1, 1), (2, 1), (3, 1)] := Places.of Tryd.underlying7 (by kernel_rfl)
theorem ni_7 : ∃ d, Tryd.prog.underlying 7 = some d ∧ ∀ k, d ≠ .int k := notInt_of Tryd.underlying7 rfl
theorem ag_8 : IsAgg Tryd.prog 8 := IsAgg.of Tryd.underlying8 rfl
theorem ti_8 : TyInfo Tryd.prog 8 4 24 [.int .i64 0, .int .i64 0, .bool false, .int .u8 0] := TyInfo.of (by kernel_rfl)
theorem ts_8 : TySize Tryd.prog 8 4 := ti_8.size
theorem fa_8_0 : FieldAt Tryd.prog 8 0 0 2 := FieldAt.of (by kernel_rfl)
theorem fa_8_1 : FieldAt Tryd.prog 8 1 1 3 := FieldAt.of (by kernel_rfl)
theorem fa_8_2 : FieldAt Tryd.prog 8 2 2 4 := FieldAt.of (by kernel_rfl)
theorem fa_8_3 : FieldAt Tryd.prog 8 3 3 6 := FieldAt.of (by kernel_rfl)
theorem pl_8 : Places Tryd.prog 8 [(0, 1), (1, 1), (2, 1), (3, 1)] := Places.of Tryd.underlying8 (by kernel_rfl)
theorem ni_8 : ∃ d, Tryd.prog.underlying 8 = some d ∧ ∀ k, d ≠ .int k := notInt_of Tryd.underlying8 rfl
theorem sc_9 : Scalar Tryd.prog 9 := Scalar.of Tryd.underlying9 rfl
theorem ti_9 : TyInfo Tryd.prog 9 1 16 [strV []] := TyInfo.of (by kernel_rfl)
theorem ts_9 : TySize Tryd.prog 9 1 := ti_9.size
theorem ni_9 : ∃ d, Tryd.prog.underlying 9 = some d ∧ ∀ k, d ≠ .int k := notInt_of Tryd.underlying9 rfl
theorem sc_10 : Scalar Tryd.prog 10 := Scalar.of Tryd.underlying10 rfl
theorem ti_10 : TyInfo Tryd.prog 10 1 16 [strV []] := TyInfo.of (by kernel_rfl)
theorem ts_10 : TySize Tryd.prog 10 1 := ti_10.size
theorem ni_10 : ∃ d, Tryd.prog.underlying 10 = some d ∧ ∀ k, d ≠ .int k := notInt_of Tryd.underlying10 rfl
theorem sc_11 : Scalar Tryd.prog 11 := Scalar.of Tryd.underlying11 rfl
theorem ti_11 : TyInfo Tryd.prog 11 1 16 [strV []] := TyInfo.of (by kernel_rfl)
theorem ts_11 : TySize Tryd.prog 11 1 := ti_11.size
theorem ni_11 : ∃ d, Tryd.prog.underlying 11 = some d ∧ ∀ k, d ≠ .int k := notInt_of Tryd.underlying11 rfl
theorem sc_12 : Scalar Tryd.prog 12 := Scalar.of Tryd.underlying12 rfl
theorem ti_12 : TyInfo Tryd.prog 12 1 8 [.int .u64 0] := TyInfo.of (by kernel_rfl)
theorem ts_12 : TySize Tryd.prog 12 1 := ti_12.size
theorem ag_13 : IsAgg Tryd.prog 13 := IsAgg.of Tryd.underlying13 rfl
theorem ti_13 : TyInfo Tryd.prog 13 2 24 [strV [], .int .u64 0] := TyInfo.of (by kernel_rfl)
theorem ts_13 : TySize Tryd.prog 13 2 := ti_13.size
theorem fa_13_0 : FieldAt Tryd.prog 13 0 0 9 := FieldAt.of (by kernel_rfl)
theorem fa_13_1 : FieldAt Tryd.prog 13 1 1 12 := FieldAt.of (by kernel_rfl)
theorem pl_13 : Places Tryd.prog 13 [(0, 1), (1, 1)] := Places.of Tryd.underlying13 (by kernel_rfl)
theorem ni_13 : ∃ d, Tryd.prog.underlying 13 = some d ∧ ∀ k, d ≠ .int k := notInt_of Tryd.underlying13 rfl
theorem ag_14 : IsAgg Tryd.prog 14 := IsAgg.of Tryd.underlying14 rfl
theorem ti_14 : TyInfo Tryd.prog 14 2 24 [strV [], .int .u64 0] := TyInfo.of (by kernel_rfl)
theorem ts_14 : TySize Tryd.prog 14 2 := ti_14.size
theorem fa_14_0 : FieldAt Tryd.prog 14 0 0 9 := FieldAt.of (by kernel_rfl)
theorem fa_14_1 : FieldAt Tryd.prog 14 1 1 12 := FieldAt.of (by kernel_rfl)
theorem pl_14 : Places Tryd.prog 14 [(0, 1), (1, 1)] := Places.of Tryd.underlying14 (by kernel_rfl)
theorem ni_14 : ∃ d, Tryd.prog.underlying 14 = some d ∧ ∀ k, d ≠ .int k := notInt_of Tryd.underlying14 rfl
theorem sc_15 : Scalar Tryd.prog 15 := Scalar.of Tryd.underlying15 rfl
theorem ti_15 : TyInfo Tryd.prog 15 1 8 [.pointer none] := TyInfo.of (by kernel_rfl)
theorem ts_15 : TySize Tryd.prog 15 1 := ti_15.size
theorem ni_15 : ∃ d, Tryd.prog.underlying 15 = some d ∧ ∀ k, d ≠ .int k := notInt_of Tryd.underlying15 rfl
theorem sc_16 : Scalar Tryd.prog 16 := Scalar.of Tryd.underlying16 rfl
theorem ti_16 : TyInfo Tryd.prog 16 1 8 [.pointer none] := TyInfo.of (by kernel_rfl)
theorem ts_16 : TySize Tryd.prog 16 1 := ti_16.size
theorem ni_16 : ∃ d, Tryd.prog.underlying 16 = some d ∧ ∀ k, d ≠ .int k := notInt_of Tryd.underlying16 rfl
theorem sc_17 : Scalar Tryd.prog 17 := Scalar.of Tryd.underlying17 rfl
theorem ti_17 : TyInfo Tryd.prog 17 1 8 [.pointer none] := TyInfo.of (by kernel_rfl)
theorem ts_17 : TySize Tryd.prog 17 1 := ti_17.size
theorem ni_17 : ∃ d, Tryd.prog.underlying 17 = some d ∧ ∀ k, d ≠ .int k := notInt_of Tryd.underlying17 rfl
theorem ag_18 : IsAgg Tryd.prog 18 := IsAgg.of Tryd.underlying18 rfl
theorem ti_18 : TyInfo Tryd.prog 18 1 8 [.pointer none] := TyInfo.of (by kernel_rfl)
theorem ts_18 : TySize Tryd.prog 18 1 := ti_18.size
theorem fa_18_0 : FieldAt Tryd.prog 18 0 0 17 := FieldAt.of (by kernel_rfl)
theorem pl_18 : Places Tryd.prog 18 [(0, 1)] := Places.of Tryd.underlying18 (by kernel_rfl)
theorem ni_18 : ∃ d, Tryd.prog.underlying 18 = some d ∧ ∀ k, d ≠ .int k := notInt_of Tryd.underlying18 rfl
theorem ag_19 : IsAgg Tryd.prog 19 := IsAgg.of Tryd.underlying19 rfl
theorem ti_19 : TyInfo Tryd.prog 19 1 8 [.pointer none] := TyInfo.of (by kernel_rfl)
theorem ts_19 : TySize Tryd.prog 19 1 := ti_19.size
theorem fa_19_0 : FieldAt Tryd.prog 19 0 0 17 := FieldAt.of (by kernel_rfl)
theorem pl_19 : Places Tryd.prog 19 [(0, 1)] := Places.of Tryd.underlying19 (by kernel_rfl)
theorem ni_19 : ∃ d, Tryd.prog.underlying 19 = some d ∧ ∀ k, d ≠ .int k := notInt_of Tryd.underlying19 rfl
theorem sc_20 : Scalar Tryd.prog 20 := Scalar.of Tryd.underlying20 rfl
theorem ti_20 : TyInfo Tryd.prog 20 1 16 [.nilIface] := TyInfo.of (by kernel_rfl)
theorem ts_20 : TySize Tryd.prog 20 1 := ti_20.size
theorem ni_20 : ∃ d, Tryd.prog.underlying 20 = some d ∧ ∀ k, d ≠ .int k := notInt_of Tryd.underlying20 rfl
theorem sc_21 : Scalar Tryd.prog 21 := Scalar.of Tryd.underlying21 rfl
theorem ti_21 : TyInfo Tryd.prog 21 1 4 [.int .i32 0] := TyInfo.of (by kernel_rfl)
theorem ts_21 : TySize Tryd.prog 21 1 := ti_21.size
theorem sc_23 : Scalar Tryd.prog 23 := Scalar.of Tryd.underlying23 rfl
theorem ti_23 : TyInfo Tryd.prog 23 1 8 [.nilFunc] := TyInfo.of (by kernel_rfl)
theorem ts_23 : TySize Tryd.prog 23 1 := ti_23.size
theorem ni_23 : ∃ d, Tryd.prog.underlying 23 = some d ∧ ∀ k, d ≠ .int k := notInt_of Tryd.underlying23 rfl
theorem sc_24 : Scalar Tryd.prog 24 := Scalar.of Tryd.underlying24 rfl
theorem ti_24 : TyInfo Tryd.prog 24 1 8 [.nilFunc] := TyInfo.of (by kernel_rfl)
theorem ts_24 : TySize Tryd.prog 24 1 := ti_24.size
theorem ni_24 : ∃ d, Tryd.prog.underlying 24 = some d ∧ ∀ k, d ≠ .int k := notInt_of Tryd.underlying24 rfl
theorem sc_25 : Scalar Tryd.prog 25 := Scalar.of Tryd.underlying25 rfl
theorem ti_25 : TyInfo Tryd.prog 25 1 8 [.nilFunc] := TyInfo.of (by kernel_rfl)
theorem ts_25 : TySize Tryd.prog 25 1 := ti_25.size
theorem ni_25 : ∃ d, Tryd.prog.underlying 25 = some d ∧ ∀ k, d ≠ .int k := notInt_of Tryd.underlying25 rfl
theorem sc_26 : Scalar Tryd.prog 26 := Scalar.of Tryd.underlying26 rfl
theorem ti_26 : TyInfo Tryd.prog 26 1 24 [.slice none 0 0] := TyInfo.of (by kernel_rfl)
theorem ts_26 : TySize Tryd.prog 26 1 := ti_26.size
theorem ni_26 : ∃ d, Tryd.prog.underlying 26 = some d ∧ ∀ k, d ≠ .int k := notInt_of Tryd.underlying26 rfl
theorem sc_27 : Scalar Tryd.prog 27 := Scalar.of Tryd.underlying27 rfl
theorem ti_27 : TyInfo Tryd.prog 27 1 8 [.nilFunc] := TyInfo.of (by kernel_rfl)
theorem ts_27 : TySize Tryd.prog 27 1 := ti_27.size
theorem ni_27 : ∃ d, Tryd.prog.underlying 27 = some d ∧ ∀ k, d ≠ .int k := notInt_of Tryd.underlying27 rfl
theorem sc_28 : Scalar Tryd.prog 28 := Scalar.of Tryd.underlying28 rfl
theorem ti_28 : TyInfo Tryd.prog 28 1 24 [.slice none 0 0] := TyInfo.of (by kernel_rfl)
theorem ts_28 : TySize Tryd.prog 28 1 := ti_28.size
theorem ni_28 : ∃ d, Tryd.prog.underlying 28 = some d ∧ ∀ k, d ≠ .int k := notInt_of Tryd.underlying28 rfl
theorem sc_29 : Scalar Tryd.prog 29 := Scalar.of Tryd.underlying29 rfl
theorem ti_29 : TyInfo Tryd.prog 29 1 8 [.int .i64 0] := TyInfo.of (by kernel_rfl)
theorem ts_29 : TySize Tryd.prog 29 1 := ti_29.size
theorem sc_31 : Scalar Tryd.prog 31 := Scalar.of Tryd.underlying31 rfl
theorem ti_31 : TyInfo Tryd.prog 31 1 8 [.nilFunc] := TyInfo.of (by kernel_rfl)
theorem ts_31 : TySize Tryd.prog 31 1 := ti_31.size
theorem ni_31 : ∃ d, Tryd.prog.underlying 31 = some d ∧ ∀ k, d ≠ .int k := notInt_of Tryd.underlying31 rfl
theorem sc_32 : Scalar Tryd.prog 32 := Scalar.of Tryd.underlying32 rfl
theorem ti_32 : TyInfo Tryd.prog 32 1 8 [.nilFunc] := TyInfo.of (by kernel_rfl)
theorem ts_32 : TySize Tryd.prog 32 1 := ti_32.size
theorem ni_32 : ∃ d, Tryd.prog.underlying 32 = some d ∧ ∀ k, d ≠ .int k := notInt_of Tryd.underlying32 rfl
theorem sc_33 : Scalar Tryd.prog 33 := Scalar.of Tryd.underlying33 rfl
theorem ti_33 : TyInfo Tryd.prog 33 1 8 [.nilFunc] := TyInfo.of (by kernel_rfl)
theorem ts_33 : TySize Tryd.prog 33 1 := ti_33.size
theorem ni_33 : ∃ d, Tryd.prog.underlying 33 = some d ∧ ∀ k, d ≠ .int k := notInt_of Tryd.underlying33 rfl
theorem sc_34 : Scalar Tryd.prog 34 := Scalar.of Tryd.underlying34 rfl
theorem ti_34 : TyInfo Tryd.prog 34 1 8 [.nilFunc] := TyInfo.of (by kernel_rfl)
theorem ts_34 : TySize Tryd.prog 34 1 := ti_34.size
theorem ni_34 : ∃ d, Tryd.prog.underlying 34 = some d ∧ ∀ k, d ≠ .int k := notInt_of Tryd.underlying34 rfl
theorem sc_35 : Scalar Tryd.prog 35 := Scalar.of Tryd.underlying35 rfl
theorem ti_35 : TyInfo Tryd.prog 35 1 8 [.nilFunc] := TyInfo.of (by kernel_rfl)
theorem ts_35 : TySize Tryd.prog 35 1 := ti_35.size
theorem ni_35 : ∃ d, Tryd.prog.underlying 35 = some d ∧ ∀ k, d ≠ .int k := notInt_of Tryd.underlying35 rfl
theorem ag_36 : IsAgg Tryd.prog 36 := IsAgg.of Tryd.underlying36 rfl
theorem ti_36 : TyInfo Tryd.prog 36 3 32 [.int .i64 0, .int .i64 0, strV []] := TyInfo.of (by kernel_rfl)
theorem ts_36 : TySize Tryd.prog 36 3 := ti_36.size
theorem fa_36_0 : FieldAt Tryd.prog 36 0 0 3 := FieldAt.of (by kernel_rfl)
theorem fa_36_1 : FieldAt Tryd.prog 36 1 1 3 := FieldAt.of (by kernel_rfl)
theorem fa_36_2 : FieldAt Tryd.prog 36 2 2 9 := FieldAt.of (by kernel_rfl)
theorem pl_36 : Places Tryd.prog 36 [(0, 1), (1, 1), (2, 1)] := Places.of Tryd.underlying36 (by kernel_rfl)
theorem ni_36 : ∃ d, Tryd.prog.underlying 36 = some d ∧ ∀ k, d ≠ .int k := notInt_of Tryd.underlying36 rfl
theorem ag_37 : IsAgg Tryd.prog 37 := IsAgg.of Tryd.underlying37 rfl
theorem ti_37 : TyInfo Tryd.prog 37 3 32 [.int .i64 0, .int .i64 0, strV []] := TyInfo.of (by kernel_rfl)
theorem ts_37 : TySize Tryd.prog 37 3 := ti_37.size
theorem fa_37_0 : FieldAt Tryd.prog 37 0 0 3 := FieldAt.of (by kernel_rfl)
theorem fa_37_1 : FieldAt Tryd.prog 37 1 1 3 := FieldAt.of (by kernel_rfl)
theorem fa_37_2 : FieldAt Tryd.prog 37 2 2 9 := FieldAt.of (by kernel_rfl)
theorem pl_37 : Places Tryd.prog 37 [(0, 1), (1, 1), (2, 1)] := Places.of Tryd.underlying37 (by kernel_rfl)
theorem ni_37 : ∃ d, Tryd.prog.underlying 37 = some d ∧ ∀ k, d ≠ .int k := notInt_of Tryd.underlying37 rfl
theorem sc_39 : Scalar Tryd.prog 39 := Scalar.of Tryd.underlying39 rfl
theorem ti_39 : TyInfo Tryd.prog 39 1 16 [.nilIface] := TyInfo.of (by kernel_rfl)
theorem ts_39 : TySize Tryd.prog 39 1 := ti_39.size
theorem ni_39 : ∃ d, Tryd.prog.underlying 39 = some d ∧ ∀ k, d ≠ .int k := notInt_of Tryd.underlying39 rfl
theorem sc_40 : Scalar Tryd.prog 40 := Scalar.of Tryd.underlying40 rfl
theorem ti_40 : TyInfo Tryd.prog 40 1 16 [.nilIface] := TyInfo.of (by kernel_rfl)
theorem ts_40 : TySize Tryd.prog 40 1 := ti_40.size
theorem ni_40 : ∃ d, Tryd.prog.underlying 40 = some d ∧ ∀ k, d ≠ .int k := notInt_of Tryd.underlying40 rfl
theorem ag_41 : IsAgg Tryd.prog 41 := IsAgg.of Tryd.underlying41 rfl
theorem ti_41 : TyInfo Tryd.prog 41 2 16 [.int .i64 0, .int .i64 0] := TyInfo.of (by kernel_rfl)
theorem ts_41 : TySize Tryd.prog 41 2 := ti_41.size
theorem fa_41_0 : FieldAt Tryd.prog 41 0 0 3 := FieldAt.of (by kernel_rfl)
theorem fa_41_1 : FieldAt Tryd.prog 41 1 1 3 := FieldAt.of (by kernel_rfl)
theorem pl_41 : Places Tryd.prog 41 [(0, 1), (1, 1)] := Places.of Tryd.underlying41 (by kernel_rfl)
theorem ni_41 : ∃ d, Tryd.prog.underlying 41 = some d ∧ ∀ k, d ≠ .int k := notInt_of Tryd.underlying41 rfl
theorem ag_42 : IsAgg Tryd.prog 42 := IsAgg.of Tryd.underlying42 rfl
theorem ti_42 : TyInfo Tryd.prog 42 2 16 [.int .i64 0, .int .i64 0] := TyInfo.of (by kernel_rfl)
theorem ts_42 : TySize Tryd.prog 42 2 := ti_42.size
theorem fa_42_0 : FieldAt Tryd.prog 42 0 0 3 := FieldAt.of (by kernel_rfl)
theorem fa_42_1 : FieldAt Tryd.prog 42 1 1 3 := FieldAt.of (by kernel_rfl)
theorem pl_42 : Places Tryd.prog 42 [(0, 1), (1, 1)] := Places.of Tryd.underlying42 (by kernel_rfl)
theorem ni_42 : ∃ d, Tryd.prog.underlying 42 = some d ∧ ∀ k, d ≠ .int k := notInt_of Tryd.underlying42 rfl
theorem ag_43 : IsAgg Tryd.prog 43 := IsAgg.of Tryd.underlying43 rfl
theorem ti_43 : TyInfo Tryd.prog 43 2 16 [.int .i64 0, .int .i64 0] := TyInfo.of (by kernel_rfl)
theorem ts_43 : TySize Tryd.prog 43 2 := ti_43.size
theorem fa_43_0 : FieldAt Tryd.prog 43 0 0 3 := FieldAt.of (by kernel_rfl)
theorem fa_43_1 : FieldAt Tryd.prog 43 1 1 3 := FieldAt.of (by kernel_rfl)
theorem pl_43 : Places Tryd.prog 43 [(0, 1), (1, 1)] := Places.of Tryd.underlying43 (by kernel_rfl)
theorem ni_43 : ∃ d, Tryd.prog.underlying 43 = some d ∧ ∀ k, d ≠ .int k := notInt_of Tryd.underlying43 rfl
theorem ag_44 : IsAgg Tryd.prog 44 := IsAgg.of Tryd.underlying44 rfl
theorem ti_44 : TyInfo Tryd.prog 44 1 8 [.int .i64 0] := TyInfo.of (by kernel_rfl)
theorem ts_44 : TySize Tryd.prog 44 1 := ti_44.size
theorem fa_44_0 : FieldAt Tryd.prog 44 0 0 3 := FieldAt.of (by kernel_rfl)
theorem pl_44 : Places Tryd.prog 44 [(0, 1)] := Places.of Tryd.underlying44 (by kernel_rfl)
theorem ni_44 : ∃ d, Tryd.prog.underlying 44 = some d ∧ ∀ k, d ≠ .int k := notInt_of Tryd.underlying44 rfl
theorem ag_45 : IsAgg Tryd.prog 45 := IsAgg.of Tryd.underlying45 rfl
theorem ti_45 : TyInfo Tryd.prog 45 1 8 [.int .i64 0] := TyInfo.of (by kernel_rfl)
theorem ts_45 : TySize Tryd.prog 45 1 := ti_45.size
theorem fa_45_0 : FieldAt Tryd.prog 45 0 0 3 := FieldAt.of (by kernel_rfl)
theorem pl_45 : Places Tryd.prog 45 [(0, 1)] := Places.of Tryd.underlying45 (by kernel_rfl)
theorem ni_45 : ∃ d, Tryd.prog.underlying 45 = some d ∧ ∀ k, d ≠ .int k := notInt_of Tryd.underlying45 rfl
theorem ag_46 : IsAgg Tryd.prog 46 := IsAgg.of Tryd.underlying46 rfl
theorem ti_46 : TyInfo Tryd.prog 46 1 8 [.int .i64 0] := TyInfo.of (by kernel_rfl)
theorem ts_46 : TySize Tryd.prog 46 1 := ti_46.size
theorem fa_46_0 : FieldAt Tryd.prog 46 0 0 3 := FieldAt.of (by kernel_rfl)
theorem pl_46 : Places Tryd.prog 46 [(0, 1)] := Places.of Tryd.underlying46 (by kernel_rfl)
theorem ni_46 : ∃ d, Tryd.prog.underlying 46 = some d ∧ ∀ k, d ≠ .int k := notInt_of Tryd.underlying46 rfl
theorem ag_47 : IsAgg Tryd.prog 47 := IsAgg.of Tryd.underlying47 rfl
theorem ti_47 : TyInfo Tryd.prog 47 1 8 [.int .i64 0] := TyInfo.of (by kernel_rfl)
theorem ts_47 : TySize Tryd.prog 47 1 := ti_47.size
theorem fa_47_0 : FieldAt Tryd.prog 47 0 0 3 := FieldAt.of (by kernel_rfl)
theorem pl_47 : Places Tryd.prog 47 [(0, 1)] := Places.of Tryd.underlying47 (by kernel_rfl)
theorem ni_47 : ∃ d, Tryd.prog.underlying 47 = some d ∧ ∀ k, d ≠ .int k := notInt_of Tryd.underlying47 rfl
theorem ag_48 : IsAgg Tryd.prog 48 := IsAgg.of Tryd.underlying48 rfl
theorem ti_48 : TyInfo Tryd.prog 48 0 0 [] := TyInfo.of (by kernel_rfl)
theorem ts_48 : TySize Tryd.prog 48 0 := ti_48.size
theorem pl_48 : Places Tryd.prog 48 [] := Places.of Tryd.underlying48 (by kernel_rfl)
theorem ni_48 : ∃ d, Tryd.prog.underlying 48 = some d ∧ ∀ k, d ≠ .int k := notInt_of Tryd.underlying48 rfl
theorem ag_49 : IsAgg Tryd.prog 49 := IsAgg.of Tryd.underlying49 rfl
theorem ti_49 : TyInfo Tryd.prog 49 0 0 [] := TyInfo.of (by kernel_rfl)
theorem ts_49 : TySize Tryd.prog 49 0 := ti_49.size
theorem pl_49 : Places Tryd.prog 49 [] := Places.of Tryd.underlying49 (by kernel_rfl)
theorem ni_49 : ∃ d, Tryd.prog.underlying 49 = some d ∧ ∀ k, d ≠ .int k := notInt_of Tryd.underlying49 rfl
theorem ag_50 : IsAgg Tryd.prog 50 := IsAgg.of Tryd.underlying50 rfl
theorem ti_50 : TyInfo Tryd.prog 50 0 0 [] := TyInfo.of (by kernel_rfl)
theorem ts_50 : TySize Tryd.prog 50 0 := ti_50.size
theorem pl_50 : Places Tryd.prog 50 [] := Places.of Tryd.underlying50 (by kernel_rfl)
theorem ni_50 : ∃ d, Tryd.prog.underlying 50 = some d ∧ ∀ k, d ≠ .int k := notInt_of Tryd.underlying50 rfl
theorem sc_51 : Scalar Tryd.prog 51 := Scalar.of Tryd.underlying51 rfl
theorem ti_51 : TyInfo Tryd.prog 51 1 8 [.nilFunc] := TyInfo.of (by kernel_rfl)
theorem ts_51 : TySize Tryd.prog 51 1 := ti_51.size
theorem ni_51 : ∃ d, Tryd.prog.underlying 51 = some d ∧ ∀ k, d ≠ .int k := notInt_of Tryd.underlying51 rfl
theorem sc_53 : Scalar Tryd.prog 53 := Scalar.of Tryd.underlying53 rfl
theorem ti_53 : TyInfo Tryd.prog 53 1 8 [.nilFunc] := TyInfo.of (by kernel_rfl)
theorem ts_53 : TySize Tryd.prog 53 1 := ti_53.size
theorem ni_53 : ∃ d, Tryd.prog.underlying 53 = some d ∧ ∀ k, d ≠ .int k := notInt_of Tryd.underlying53 rfl
theorem sc_54 : Scalar Tryd.prog 54 := Scalar.of Tryd.underlying54 rfl
theorem ti_54 : TyInfo Tryd.prog 54 1 8 [.pointer none] := TyInfo.of (by kernel_rfl)
theorem ts_54 : TySize Tryd.prog 54 1 := ti_54.size
theorem ni_54 : ∃ d, Tryd.prog.underlying 54 = some d ∧ ∀ k, d ≠ .int k := notInt_of Tryd.underlying54 rfl
theorem sc_55 : Scalar Tryd.prog 55 := Scalar.of Tryd.underlying55 rfl
theorem ti_55 : TyInfo Tryd.prog 55 1 24 [.slice none 0 0] := TyInfo.of (by kernel_rfl)
theorem ts_55 : TySize Tryd.prog 55 1 := ti_55.size
theorem ni_55 : ∃ d, Tryd.prog.underlying 55 = some d ∧ ∀ k, d ≠ .int k := notInt_of Tryd.underlying55 rfl
theorem ag_56 : IsAgg Tryd.prog 56 := IsAgg.of Tryd.underlying56 rfl
theorem ti_56 : TyInfo Tryd.prog 56 2 32 [.pointer none, .slice none 0 0] := TyInfo.of (by kernel_rfl)
theorem ts_56 : TySize Tryd.prog 56 2 := ti_56.size
theorem fa_56_0 : FieldAt Tryd.prog 56 0 0 54 := FieldAt.of (by kernel_rfl)
theorem fa_56_1 : FieldAt Tryd.prog 56 1 1 55 := FieldAt.of (by kernel_rfl)
theorem pl_56 : Places Tryd.prog 56 [(0, 1), (1, 1)] := Places.of Tryd.underlying56 (by kernel_rfl)
theorem ni_56 : ∃ d, Tryd.prog.underlying 56 = some d ∧ ∀ k, d ≠ .int k := notInt_of Tryd.underlying56 rfl
theorem ag_57 : IsAgg Tryd.prog 57 := IsAgg.of Tryd.underlying57 rfl
theorem ti_57 : TyInfo Tryd.prog 57 2 32 [.pointer none, .slice none 0 0] := TyInfo.of (by kernel_rfl)
theorem ts_57 : TySize Tryd.prog 57 2 := ti_57.size
theorem fa_57_0 : FieldAt Tryd.prog 57 0 0 54 := FieldAt.of (by kernel_rfl)
theorem fa_57_1 : FieldAt Tryd.prog 57 1 1 55 := FieldAt.of (by kernel_rfl)
theorem pl_57 : Places Tryd.prog 57 [(0, 1), (1, 1)] := Places.of Tryd.underlying57 (by kernel_rfl)
theorem ni_57 : ∃ d, Tryd.prog.underlying 57 = some d ∧ ∀ k, d ≠ .int k := notInt_of Tryd.underlying57 rfl
theorem sc_58 : Scalar Tryd.prog 58 := Scalar.of Tryd.underlying58 rfl
theorem ti_58 : TyInfo Tryd.prog 58 1 16 [.nilIface] := TyInfo.of (by kernel_rfl)
theorem ts_58 : TySize Tryd.prog 58 1 := ti_58.size
theorem ni_58 : ∃ d, Tryd.prog.underlying 58 = some d ∧ ∀ k, d ≠ .int k := notInt_of Tryd.underlying58 rfl
theorem sc_59 : Scalar Tryd.prog 59 := Scalar.of Tryd.underlying59 rfl
theorem ti_59 : TyInfo Tryd.prog 59 1 16 [.nilIface] := TyInfo.of (by kernel_rfl)
theorem ts_59 : TySize Tryd.prog 59 1 := ti_59.size
theorem ni_59 : ∃ d, Tryd.prog.underlying 59 = some d ∧ ∀ k, d ≠ .int k := notInt_of Tryd.underlying59 rfl
theorem sc_61 : Scalar Tryd.prog 61 := Scalar.of Tryd.underlying61 rfl
theorem ti_61 : TyInfo Tryd.prog 61 1 8 [.nilFunc] := TyInfo.of (by kernel_rfl)
theorem ts_61 : TySize Tryd.prog 61 1 := ti_61.size
theorem ni_61 : ∃ d, Tryd.prog.underlying 61 = some d ∧ ∀ k, d ≠ .int k := notInt_of Tryd.underlying61 rfl
theorem sc_62 : Scalar Tryd.prog 62 := Scalar.of Tryd.underlying62 rfl
theorem ti_62 : TyInfo Tryd.prog 62 1 8 [.nilFunc] := TyInfo.of (by kernel_rfl)
theorem ts_62 : TySize Tryd.prog 62 1 := ti_62.size
theorem ni_62 : ∃ d, Tryd.prog.underlying 62 = some d ∧ ∀ k, d ≠ .int k := notInt_of Tryd.underlying62 rfl
theorem sc_63 : Scalar Tryd.prog 63 := Scalar.of Tryd.underlying63 rfl
theorem ti_63 : TyInfo Tryd.prog 63 1 24 [.slice none 0 0] := TyInfo.of (by kernel_rfl)
theorem ts_63 : TySize Tryd.prog 63 1 := ti_63.size
theorem ni_63 : ∃ d, Tryd.prog.underlying 63 = some d ∧ ∀ k, d ≠ .int k := notInt_of Tryd.underlying63 rfl
theorem sc_65 : Scalar Tryd.prog 65 := Scalar.of Tryd.underlying65 rfl
theorem ti_65 : TyInfo Tryd.prog 65 1 8 [.nilFunc] := TyInfo.of (by kernel_rfl)
theorem ts_65 : TySize Tryd.prog 65 1 := ti_65.size
theorem ni_65 : ∃ d, Tryd.prog.underlying 65 = some d ∧ ∀ k, d ≠ .int k := notInt_of Tryd.underlying65 rfl
theorem sc_66 : Scalar Tryd.prog 66 := Scalar.of Tryd.underlying66 rfl
theorem ti_66 : TyInfo Tryd.prog 66 1 8 [.pointer none] := TyInfo.of (by kernel_rfl)
theorem ts_66 : TySize Tryd.prog 66 1 := ti_66.size
theorem ni_66 : ∃ d, Tryd.prog.underlying 66 = some d ∧ ∀ k, d ≠ .int k := notInt_of Tryd.underlying66 rfl
theorem sc_67 : Scalar Tryd.prog 67 := Scalar.of Tryd.underlying67 rfl
theorem ti_67 : TyInfo Tryd.prog 67 1 8 [.nilFunc] := TyInfo.of (by kernel_rfl)
theorem ts_67 : TySize Tryd.prog 67 1 := ti_67.size
theorem ni_67 : ∃ d, Tryd.prog.underlying 67 = some d ∧ ∀ k, d ≠ .int k := notInt_of Tryd.underlying67 rfl
theorem sc_69 : Scalar Tryd.prog 69 := Scalar.of Tryd.underlying69 rfl
theorem ti_69 : TyInfo Tryd.prog 69 1 8 [.nilFunc] := TyInfo.of (by kernel_rfl)
theorem ts_69 : TySize Tryd.prog 69 1 := ti_69.size
theorem ni_69 : ∃ d, Tryd.prog.underlying 69 = some d ∧ ∀ k, d ≠ .int k := notInt_of Tryd.underlying69 rfl
theorem sc_70 : Scalar Tryd.prog 70 := Scalar.of Tryd.underlying70 rfl
theorem ti_70 : TyInfo Tryd.prog 70 1 8 [.nilFunc] := TyInfo.of (by kernel_rfl)
theorem ts_70 : TySize Tryd.prog 70 1 := ti_70.size
theorem ni_70 : ∃ d, Tryd.prog.underlying 70 = some d ∧ ∀ k, d ≠ .int k := notInt_of Tryd.underlying70 rfl
theorem sc_72 : Scalar Tryd.prog 72 := Scalar.of Tryd.underlying72 rfl
theorem ti_72 : TyInfo Tryd.prog 72 1 8 [.nilFunc] := TyInfo.of (by kernel_rfl)
theorem ts_72 : TySize Tryd.prog 72 1 := ti_72.size
theorem ni_72 : ∃ d, Tryd.prog.underlying 72 = some d ∧ ∀ k, d ≠ .int k := notInt_of Tryd.underlying72 rfl
theorem sc_73 : Scalar Tryd.prog 73 := Scalar.of Tryd.underlying73 rfl
theorem ti_73 : TyInfo Tryd.prog 73 1 8 [.pointer none] := TyInfo.of (by kernel_rfl)
theorem ts_73 : TySize Tryd.prog 73 1 := ti_73.size
theorem ni_73 : ∃ d, Tryd.prog.underlying 73 = some d ∧ ∀ k, d ≠ .int k := notInt_of Tryd.underlying73 rfl
theorem sc_74 : Scalar Tryd.prog 74 := Scalar.of Tryd.underlying74 rfl
theorem ti_74 : TyInfo Tryd.prog 74 1 8 [.nilFunc] := TyInfo.of (by kernel_rfl)
theorem ts_74 : TySize Tryd.prog 74 1 := ti_74.size
theorem ni_74 : ∃ d, Tryd.prog.underlying 74 = some d ∧ ∀ k, d ≠ .int k := notInt_of Tryd.underlying74 rfl
theorem sc_75 : Scalar Tryd.prog 75 := Scalar.of Tryd.underlying75 rfl
theorem ti_75 : TyInfo Tryd.prog 75 1 8 [.nilFunc] := TyInfo.of (by kernel_rfl)
theorem ts_75 : TySize Tryd.prog 75 1 := ti_75.size
theorem ni_75 : ∃ d, Tryd.prog.underlying 75 = some d ∧ ∀ k, d ≠ .int k := notInt_of Tryd.underlying75 rfl
theorem sc_76 : Scalar Tryd.prog 76 := Scalar.of Tryd.underlying76 rfl
theorem ti_76 : TyInfo Tryd.prog 76 1 8 [.nilFunc] := TyInfo.of (by kernel_rfl)
theorem ts_76 : TySize Tryd.prog 76 1 := ti_76.size
theorem ni_76 : ∃ d, Tryd.prog.underlying 76 = some d ∧ ∀ k, d ≠ .int k := notInt_of Tryd.underlying76 rfl
theorem sc_77 : Scalar Tryd.prog 77 := Scalar.of Tryd.underlying77 rfl
theorem ti_77 : TyInfo Tryd.prog 77 1 8 [.nilFunc] := TyInfo.of (by kernel_rfl)
theorem ts_77 : TySize Tryd.prog 77 1 := ti_77.size
theorem ni_77 : ∃ d, Tryd.prog.underlying 77 = some d ∧ ∀ k, d ≠ .int k := notInt_of Tryd.underlying77 rfl
theorem sc_79 : Scalar Tryd.prog 79 := Scalar.of Tryd.underlying79 rfl
theorem ti_79 : TyInfo Tryd.prog 79 1 8 [.nilFunc] := TyInfo.of (by kernel_rfl)
theorem ts_79 : TySize Tryd.prog 79 1 := ti_79.size
theorem ni_79 : ∃ d, Tryd.prog.underlying 79 = some d ∧ ∀ k, d ≠ .int k := notInt_of Tryd.underlying79 rfl
theorem sc_80 : Scalar Tryd.prog 80 := Scalar.of Tryd.underlying80 rfl
theorem ti_80 : TyInfo Tryd.prog 80 1 8 [.nilFunc] := TyInfo.of (by kernel_rfl)
theorem ts_80 : TySize Tryd.prog 80 1 := ti_80.size
theorem ni_80 : ∃ d, Tryd.prog.underlying 80 = some d ∧ ∀ k, d ≠ .int k := notInt_of Tryd.underlying80 rfl
theorem ag_81 : IsAgg Tryd.prog 81 := IsAgg.of Tryd.underlying81 rfl
theorem ts_81 : TySize Tryd.prog 81 256 := TySize.of (by kernel_rfl)
theorem ni_81 : ∃ d, Tryd.prog.underlying 81 = some d ∧ ∀ k, d ≠ .int k := notInt_of Tryd.underlying81 rfl
theorem ag_82 : IsAgg Tryd.prog 82 := IsAgg.of Tryd.underlying82 rfl
theorem ts_82 : TySize Tryd.prog 82 256 := TySize.of (by kernel_rfl)
theorem ni_82 : ∃ d, Tryd.prog.underlying 82 = some d ∧ ∀ k, d ≠ .int k := notInt_of Tryd.underlying82 rfl
theorem sc_84 : Scalar Tryd.prog 84 := Scalar.of Tryd.underlying84 rfl
theorem ti_84 : TyInfo Tryd.prog 84 1 8 [.nilFunc] := TyInfo.of (by kernel_rfl)
theorem ts_84 : TySize Tryd.prog 84 1 := ti_84.size
theorem ni_84 : ∃ d, Tryd.prog.underlying 84 = some d ∧ ∀ k, d ≠ .int k := notInt_of Tryd.underlying84 rfl
theorem sc_85 : Scalar Tryd.prog 85 := Scalar.of Tryd.underlying85 rfl
theorem ti_85 : TyInfo Tryd.prog 85 1 8 [.nilFunc] := TyInfo.of (by kernel_rfl)
theorem ts_85 : TySize Tryd.prog 85 1 := ti_85.size
theorem ni_85 : ∃ d, Tryd.prog.underlying 85 = some d ∧ ∀ k, d ≠ .int k := notInt_of Tryd.underlying85 rfl
theorem sc_86 : Scalar Tryd.prog 86 := Scalar.of Tryd.underlying86 rfl
theorem ti_86 : TyInfo Tryd.prog 86 1 8 [.pointer none] := TyInfo.of (by kernel_rfl)
theorem ts_86 : TySize Tryd.prog 86 1 := ti_86.size
theorem ni_86 : ∃ d, Tryd.prog.underlying 86 = some d ∧ ∀ k, d ≠ .int k := notInt_of Tryd.underlying86 rfl
theorem sc_87 : Scalar Tryd.prog 87 := Scalar.of Tryd.underlying87 rfl
theorem ti_87 : TyInfo Tryd.prog 87 1 8 [.nilFunc] := TyInfo.of (by kernel_rfl)
theorem ts_87 : TySize Tryd.prog 87 1 := ti_87.size
theorem ni_87 : ∃ d, Tryd.prog.underlying 87 = some d ∧ ∀ k, d ≠ .int k := notInt_of Tryd.underlying87 rfl
theorem sc_89 : Scalar Tryd.prog 89 := Scalar.of Tryd.underlying89 rfl
theorem ti_89 : TyInfo Tryd.prog 89 1 8 [.nilFunc] := TyInfo.of (by kernel_rfl)
theorem ts_89 : TySize Tryd.prog 89 1 := ti_89.size
theorem ni_89 : ∃ d, Tryd.prog.underlying 89 = some d ∧ ∀ k, d ≠ .int k := notInt_of Tryd.underlying89 rfl
theorem sc_90 : Scalar Tryd.prog 90 := Scalar.of Tryd.underlying90 rfl
theorem ti_90 : TyInfo Tryd.prog 90 1 8 [.nilFunc] := TyInfo.of (by kernel_rfl)
theorem ts_90 : TySize Tryd.prog 90 1 := ti_90.size
theorem ni_90 : ∃ d, Tryd.prog.underlying 90 = some d ∧ ∀ k, d ≠ .int k := notInt_of Tryd.underlying90 rfl
theorem sc_91 : Scalar Tryd.prog 91 := Scalar.of Tryd.underlying91 rfl
theorem ti_91 : TyInfo Tryd.prog 91 1 8 [.nilFunc] := TyInfo.of (by kernel_rfl)
theorem ts_91 : TySize Tryd.prog 91 1 := ti_91.size
theorem ni_91 : ∃ d, Tryd.prog.underlying 91 = some d ∧ ∀ k, d ≠ .int k := notInt_of Tryd.underlying91 rfl
theorem sc_92 : Scalar Tryd.prog 92 := Scalar.of Tryd.underlying92 rfl
theorem ti_92 : TyInfo Tryd.prog 92 1 8 [.nilFunc] := TyInfo.of (by kernel_rfl)
theorem ts_92 : TySize Tryd.prog 92 1 := ti_92.size
theorem ni_92 : ∃ d, Tryd.prog.underlying 92 = some d ∧ ∀ k, d ≠ .int k := notInt_of Tryd.underlying92 rfl
theorem sc_93 : Scalar Tryd.prog 93 := Scalar.of Tryd.underlying93 rfl
theorem ti_93 : TyInfo Tryd.prog 93 1 8 [.nilFunc] := TyInfo.of (by kernel_rfl)
theorem ts_93 : TySize Tryd.prog 93 1 := ti_93.size
theorem ni_93 : ∃ d, Tryd.prog.underlying 93 = some d ∧ ∀ k, d ≠ .int k := notInt_of Tryd.underlying93 rfl
theorem sc_95 : Scalar Tryd.prog 95 := Scalar.of Tryd.underlying95 rfl
theorem ti_95 : TyInfo Tryd.prog 95 1 8 [.nilFunc] := TyInfo.of (by kernel_rfl)
theorem ts_95 : TySize Tryd.prog 95 1 := ti_95.size
theorem ni_95 : ∃ d, Tryd.prog.underlying 95 = some d ∧ ∀ k, d ≠ .int k := notInt_of Tryd.underlying95 rfl
theorem sc_96 : Scalar Tryd.prog 96 := Scalar.of Tryd.underlying96 rfl
theorem ti_96 : TyInfo Tryd.prog 96 1 8 [.nilFunc] := TyInfo.of (by kernel_rfl)
theorem ts_96 : TySize Tryd.prog 96 1 := ti_96.size
theorem ni_96 : ∃ d, Tryd.prog.underlying 96 = some d ∧ ∀ k, d ≠ .int k := notInt_of Tryd.underlying96 rfl
theorem sc_97 : Scalar Tryd.prog 97 := Scalar.of Tryd.underlying97 rfl
theorem ti_97 : TyInfo Tryd.prog 97 1 8 [.nilFunc] := TyInfo.of (by kernel_rfl)
theorem ts_97 : TySize Tryd.prog 97 1 := ti_97.size
theorem ni_97 : ∃ d, Tryd.prog.underlying 97 = some d ∧ ∀ k, d ≠ .int k := notInt_of Tryd.underlying97 rfl
theorem sc_98 : Scalar Tryd.prog 98 := Scalar.of Tryd.underlying98 rfl
theorem ti_98 : TyInfo Tryd.prog 98 1 8 [.nilFunc] := TyInfo.of (by kernel_rfl)
theorem ts_98 : TySize Tryd.prog 98 1 := ti_98.size
theorem ni_98 : ∃ d, Tryd.prog.underlying 98 = some d ∧ ∀ k, d ≠ .int k := notInt_of Tryd.underlying98 rfl
theorem sc_99 : Scalar Tryd.prog 99 := Scalar.of Tryd.underlying99 rfl
theorem ti_99 : TyInfo Tryd.prog 99 1 8 [.int .u64 0] := TyInfo.of (by kernel_rfl)
theorem ts_99 : TySize Tryd.prog 99 1 := ti_99.size
theorem sc_100 : Scalar Tryd.prog 100 := Scalar.of Tryd.underlying100 rfl
theorem ti_100 : TyInfo Tryd.prog 100 1 8 [.nilFunc] := TyInfo.of (by kernel_rfl)
theorem ts_100 : TySize Tryd.prog 100 1 := ti_100.size
theorem ni_100 : ∃ d, Tryd.prog.underlying 100 = some d ∧ ∀ k, d ≠ .int k := notInt_of Tryd.underlying100 rfl
theorem sc_101 : Scalar Tryd.prog 101 := Scalar.of Tryd.underlying101 rfl
theorem ti_101 : TyInfo Tryd.prog 101 1 8 [.int .i64 0] := TyInfo.of (by kernel_rfl)
theorem ts_101 : TySize Tryd.prog 101 1 := ti_101.size
theorem sc_103 : Scalar Tryd.prog 103 := Scalar.of Tryd.underlying103 rfl
theorem ti_103 : TyInfo Tryd.prog 103 1 8 [.nilFunc] := TyInfo.of (by kernel_rfl)
theorem ts_103 : TySize Tryd.prog 103 1 := ti_103.size
theorem ni_103 : ∃ d, Tryd.prog.underlying 103 = some d ∧ ∀ k, d ≠ .int k := notInt_of Tryd.underlying103 rfl
theorem sc_104 : Scalar Tryd.prog 104 := Scalar.of Tryd.underlying104 rfl
theorem ti_104 : TyInfo Tryd.prog 104 1 8 [.pointer none] := TyInfo.of (by kernel_rfl)
theorem ts_104 : TySize Tryd.prog 104 1 := ti_104.size
theorem ni_104 : ∃ d, Tryd.prog.underlying 104 = some d ∧ ∀ k, d ≠ .int k := notInt_of Tryd.underlying104 rfl
theorem sc_105 : Scalar Tryd.prog 105 := Scalar.of Tryd.underlying105 rfl
theorem ti_105 : TyInfo Tryd.prog 105 1 8 [.nilFunc] := TyInfo.of (by kernel_rfl)
theorem ts_105 : TySize Tryd.prog 105 1 := ti_105.size
theorem ni_105 : ∃ d, Tryd.prog.underlying 105 = some d ∧ ∀ k, d ≠ .int k := notInt_of Tryd.underlying105 rfl
theorem sc_106 : Scalar Tryd.prog 106 := Scalar.of Tryd.underlying106 rfl
theorem ti_106 : TyInfo Tryd.prog 106 1 8 [.nilFunc] := TyInfo.of (by kernel_rfl)
theorem ts_106 : TySize Tryd.prog 106 1 := ti_106.size
theorem ni_106 : ∃ d, Tryd.prog.underlying 106 = some d ∧ ∀ k, d ≠ .int k := notInt_of Tryd.underlying106 rfl
theorem ag_107 : IsAgg Tryd.prog 107 := IsAgg.of Tryd.underlying107 rfl
theorem ts_107 : TySize Tryd.prog 107 256 := TySize.of (by kernel_rfl)
theorem ni_107 : ∃ d, Tryd.prog.underlying 107 = some d ∧ ∀ k, d ≠ .int k := notInt_of Tryd.underlying107 rfl
theorem ag_108 : IsAgg Tryd.prog 108 := IsAgg.of Tryd.underlying108 rfl
theorem ti_108 : TyInfo Tryd.prog 108 2 2 [.int .u8 0, .int .u8 0] := TyInfo.of (by kernel_rfl)
theorem ts_108 : TySize Tryd.prog 108 2 := ti_108.size
theorem fa_108_0 : FieldAt Tryd.prog 108 0 0 5 := FieldAt.of (by kernel_rfl)
theorem fa_108_1 : FieldAt Tryd.prog 108 1 1 5 := FieldAt.of (by kernel_rfl)
theorem pl_108 : Places Tryd.prog 108 [(0, 1), (1, 1)] := Places.of Tryd.underlying108 (by kernel_rfl)
theorem ni_108 : ∃ d, Tryd.prog.underlying 108 = some d ∧ ∀ k, d ≠ .int k := notInt_of Tryd.underlying108 rfl
theorem ag_109 : IsAgg Tryd.prog 109 := IsAgg.of Tryd.underlying109 rfl
theorem ti_109 : TyInfo Tryd.prog 109 2 2 [.int .u8 0, .int .u8 0] := TyInfo.of (by kernel_rfl)
theorem ts_109 : TySize Tryd.prog 109 2 := ti_109.size
theorem fa_109_0 : FieldAt Tryd.prog 109 0 0 5 := FieldAt.of (by kernel_rfl)
theorem fa_109_1 : FieldAt Tryd.prog 109 1 1 5 := FieldAt.of (by kernel_rfl)
theorem pl_109 : Places Tryd.prog 109 [(0, 1), (1, 1)] := Places.of Tryd.underlying109 (by kernel_rfl)
theorem ni_109 : ∃ d, Tryd.prog.underlying 109 = some d ∧ ∀ k, d ≠ .int k := notInt_of Tryd.underlying109 rfl
theorem ag_110 : IsAgg Tryd.prog 110 := IsAgg.of Tryd.underlying110 rfl
theorem ti_110 : TyInfo Tryd.prog 110 32 32 [.int .u8 0, .int .u8 0, .int .u8 0, .int .u8 0, .int .u8 0, .int .u8 0, .int .u8 0, .int .u8 0, .int .u8 0, .int .u8 0, .int .u8 0, .int .u8 0, .int .u8 0, .int .u8 0, .int .u8 0, .int .u8 0, .int .u8 0, .int .u8 0, .int .u8 0, .int .u8 0, .int .u8 0, .int .u8 0, .int .u8 0, .int .u8 0, .int .u8 0, .int .u8 0, .int .u8 0, .int .u8 0, .int .u8 0, .int .u8 0, .int .u8 0, .int .u8 0] := TyInfo.of (by kernel_rfl)
theorem ts_110 : TySize Tryd.prog 110 32 := ti_110.size
theorem ni_110 : ∃ d, Tryd.prog.underlying 110 = some d ∧ ∀ k, d ≠ .int k := notInt_of Tryd.underlying110 rfl
theorem sc_111 : Scalar Tryd.prog 111 := Scalar.of Tryd.underlying111 rfl
theorem ti_111 : TyInfo Tryd.prog 111 1 4 [.int .u32 0] := TyInfo.of (by kernel_rfl)
theorem ts_111 : TySize Tryd.prog 111 1 := ti_111.size
theorem sc_113 : Scalar Tryd.prog 113 := Scalar.of Tryd.underlying113 rfl
theorem ti_113 : TyInfo Tryd.prog 113 1 8 [.nilFunc] := TyInfo.of (by kernel_rfl)
theorem ts_113 : TySize Tryd.prog 113 1 := ti_113.size
theorem ni_113 : ∃ d, Tryd.prog.underlying 113 = some d ∧ ∀ k, d ≠ .int k := notInt_of Tryd.underlying113 rfl
theorem sc_114 : Scalar Tryd.prog 114 := Scalar.of Tryd.underlying114 rfl
theorem ti_114 : TyInfo Tryd.prog 114 1 8 [.int .u64 0] := TyInfo.of (by kernel_rfl)
theorem ts_114 : TySize Tryd.prog 114 1 := ti_114.size
theorem sc_116 : Scalar Tryd.prog 116 := Scalar.of Tryd.underlying116 rfl
theorem ti_116 : TyInfo Tryd.prog 116 1 8 [.nilFunc] := TyInfo.of (by kernel_rfl)
theorem ts_116 : TySize Tryd.prog 116 1 := ti_116.size
theorem ni_116 : ∃ d, Tryd.prog.underlying 116 = some d ∧ ∀ k, d ≠ .int k := notInt_of Tryd.underlying116 rfl
theorem ag_117 : IsAgg Tryd.prog 117 := IsAgg.of Tryd.underlying117 rfl
theorem ti_117 : TyInfo Tryd.prog 117 3 48 [strV [], strV [], .nilIface] := TyInfo.of (by kernel_rfl)
theorem ts_117 : TySize Tryd.prog 117 3 := ti_117.size
theorem fa_117_0 : FieldAt Tryd.prog 117 0 0 9 := FieldAt.of (by kernel_rfl)
theorem fa_117_1 : FieldAt Tryd.prog 117 1 1 9 := FieldAt.of (by kernel_rfl)
theorem fa_117_2 : FieldAt Tryd.prog 117 2 2 59 := FieldAt.of (by kernel_rfl)
theorem pl_117 : Places Tryd.prog 117 [(0, 1), (1, 1), (2, 1)] := Places.of Tryd.underlying117 (by kernel_rfl)
theorem ni_117 : ∃ d, Tryd.prog.underlying 117 = some d ∧ ∀ k, d ≠ .int k := notInt_of Tryd.underlying117 rfl
theorem ag_118 : IsAgg Tryd.prog 118 := IsAgg.of Tryd.underlying118 rfl
theorem ti_118 : TyInfo Tryd.prog 118 3 48 [strV [], strV [], .nilIface] := TyInfo.of (by kernel_rfl)
theorem ts_118 : TySize Tryd.prog 118 3 := ti_118.size
theorem fa_118_0 : FieldAt Tryd.prog 118 0 0 9 := FieldAt.of (by kernel_rfl)
theorem fa_118_1 : FieldAt Tryd.prog 118 1 1 9 := FieldAt.of (by kernel_rfl)
theorem fa_118_2 : FieldAt Tryd.prog 118 2 2 59 := FieldAt.of (by kernel_rfl)
theorem pl_118 : Places Tryd.prog 118 [(0, 1), (1, 1), (2, 1)] := Places.of Tryd.underlying118 (by kernel_rfl)
theorem ni_118 : ∃ d, Tryd.prog.underlying 118 = some d ∧ ∀ k, d ≠ .int k := notInt_of Tryd.underlying118 rfl
theorem sc_119 : Scalar Tryd.prog 119 := Scalar.of Tryd.underlying119 rfl
theorem ti_119 : TyInfo Tryd.prog 119 1 8 [.nilFunc] := TyInfo.of (by kernel_rfl)
theorem ts_119 : TySize Tryd.prog 119 1 := ti_119.size
theorem ni_119 : ∃ d, Tryd.prog.underlying 119 = some d ∧ ∀ k, d ≠ .int k := notInt_of Tryd.underlying119 rfl
theorem sc_120 : Scalar Tryd.prog 120 := Scalar.of Tryd.underlying120 rfl
theorem ti_120 : TyInfo Tryd.prog 120 1 8 [.nilFunc] := TyInfo.of (by kernel_rfl)
theorem ts_120 : TySize Tryd.prog 120 1 := ti_120.size
theorem ni_120 : ∃ d, Tryd.prog.underlying 120 = some d ∧ ∀ k, d ≠ .int k := notInt_of Tryd.underlying120 rfl
theorem sc_121 : Scalar Tryd.prog 121 := Scalar.of Tryd.underlying121 rfl
theorem ti_121 : TyInfo Tryd.prog 121 1 8 [.nilFunc] := TyInfo.of (by kernel_rfl)
theorem ts_121 : TySize Tryd.prog 121 1 := ti_121.size
theorem ni_121 : ∃ d, Tryd.prog.underlying 121 = some d ∧ ∀ k, d ≠ .int k := notInt_of Tryd.underlying121 rfl
theorem sc_122 : Scalar Tryd.prog 122 := Scalar.of Tryd.underlying122 rfl
theorem ti_122 : TyInfo Tryd.prog 122 1 8 [.pointer none] := TyInfo.of (by kernel_rfl)
theorem ts_122 : TySize Tryd.prog 122 1 := ti_122.size
theorem ni_122 : ∃ d, Tryd.prog.underlying 122 = some d ∧ ∀ k, d ≠ .int k := notInt_of Tryd.underlying122 rfl
theorem ag_123 : IsAgg Tryd.prog 123 := IsAgg.of Tryd.underlying123 rfl
theorem ti_123 : TyInfo Tryd.prog 123 1 16 [strV []] := TyInfo.of (by kernel_rfl)
theorem ts_123 : TySize Tryd.prog 123 1 := ti_123.size
theorem fa_123_0 : FieldAt Tryd.prog 123 0 0 9 := FieldAt.of (by kernel_rfl)
theorem pl_123 : Places Tryd.prog 123 [(0, 1)] := Places.of Tryd.underlying123 (by kernel_rfl)
theorem ni_123 : ∃ d, Tryd.prog.underlying 123 = some d ∧ ∀ k, d ≠ .int k := notInt_of Tryd.underlying123 rfl
theorem ag_124 : IsAgg Tryd.prog 124 := IsAgg.of Tryd.underlying124 rfl
theorem ti_124 : TyInfo Tryd.prog 124 1 16 [strV []] := TyInfo.of (by kernel_rfl)
theorem ts_124 : TySize Tryd.prog 124 1 := ti_124.size
theorem fa_124_0 : FieldAt Tryd.prog 124 0 0 9 := FieldAt.of (by kernel_rfl)
theorem pl_124 : Places Tryd.prog 124 [(0, 1)] := Places.of Tryd.underlying124 (by kernel_rfl)
theorem ni_124 : ∃ d, Tryd.prog.underlying 124 = some d ∧ ∀ k, d ≠ .int k := notInt_of Tryd.underlying124 rfl
theorem sc_125 : Scalar Tryd.prog 125 := Scalar.of Tryd.underlying125 rfl
theorem ti_125 : TyInfo Tryd.prog 125 1 8 [.nilFunc] := TyInfo.of (by kernel_rfl)
theorem ts_125 : TySize Tryd.prog 125 1 := ti_125.size
theorem ni_125 : ∃ d, Tryd.prog.underlying 125 = some d ∧ ∀ k, d ≠ .int k := notInt_of Tryd.underlying125 rfl
theorem ag_126 : IsAgg Tryd.prog 126 := IsAgg.of Tryd.underlying126 rfl
theorem ti_126 : TyInfo Tryd.prog 126 24 24 [.int .u8 0, .int .u8 0, .int .u8 0, .int .u8 0, .int .u8 0, .int .u8 0, .int .u8 0, .int .u8 0, .int .u8 0, .int .u8 0, .int .u8 0, .int .u8 0, .int .u8 0, .int .u8 0, .int .u8 0, .int .u8 0, .int .u8 0, .int .u8 0, .int .u8 0, .int .u8 0, .int .u8 0, .int .u8 0, .int .u8 0, .int .u8 0] := TyInfo.of (by kernel_rfl)
theorem ts_126 : TySize Tryd.prog 126 24 := ti_126.size
theorem ni_126 : ∃ d, Tryd.prog.underlying 126 = some d ∧ ∀ k, d ≠ .int k := notInt_of Tryd.underlying126 rfl
theorem sc_127 : Scalar Tryd.prog 127 := Scalar.of Tryd.underlying127 rfl
theorem ti_127 : TyInfo Tryd.prog 127 1 8 [.nilFunc] := TyInfo.of (by kernel_rfl)
theorem ts_127 : TySize Tryd.prog 127 1 := ti_127.size
theorem ni_127 : ∃ d, Tryd.prog.underlying 127 = some d ∧ ∀ k, d ≠ .int k := notInt_of Tryd.underlying127 rfl
theorem sc_128 : Scalar Tryd.prog 128 := Scalar.of Tryd.underlying128 rfl
theorem ti_128 : TyInfo Tryd.prog 128 1 8 [.nilFunc] := TyInfo.of (by kernel_rfl)
theorem ts_128 : TySize Tryd.prog 128 1 := ti_128.size
theorem ni_128 : ∃ d, Tryd.prog.underlying 128 = some d ∧ ∀ k, d ≠ .int k := notInt_of Tryd.underlying128 rfl
theorem sc_130 : Scalar Tryd.prog 130 := Scalar.of Tryd.underlying130 rfl
theorem ti_130 : TyInfo Tryd.prog 130 1 8 [.nilFunc] := TyInfo.of (by kernel_rfl)
theorem ts_130 : TySize Tryd.prog 130 1 := ti_130.size
theorem ni_130 : ∃ d, Tryd.prog.underlying 130 = some d ∧ ∀ k, d ≠ .int k := notInt_of Tryd.underlying130 rfl
theorem sc_131 : Scalar Tryd.prog 131 := Scalar.of Tryd.underlying131 rfl
theorem ti_131 : TyInfo Tryd.prog 131 1 8 [.nilFunc] := TyInfo.of (by kernel_rfl)
theorem ts_131 : TySize Tryd.prog 131 1 := ti_131.size
theorem ni_131 : ∃ d, Tryd.prog.underlying 131 = some d ∧ ∀ k, d ≠ .int k := notInt_of Tryd.underlying131 rfl
theorem ag_132 : IsAgg Tryd.prog 132 := IsAgg.of Tryd.underlying132 rfl
theorem ti_132 : TyInfo Tryd.prog 132 20 160 [.int .u64 0, .int .u64 0, .int .u64 0, .int .u64 0, .int .u64 0, .int .u64 0, .int .u64 0, .int .u64 0, .int .u64 0, .int .u64 0, .int .u64 0, .int .u64 0, .int .u64 0, .int .u64 0, .int .u64 0, .int .u64 0, .int .u64 0, .int .u64 0, .int .u64 0, .int .u64 0] := TyInfo.of (by kernel_rfl)
theorem ts_132 : TySize Tryd.prog 132 20 := ti_132.size
theorem ni_132 : ∃ d, Tryd.prog.underlying 132 = some d ∧ ∀ k, d ≠ .int k := notInt_of Tryd.underlying132 rfl
theorem ag_133 : IsAgg Tryd.prog 133 := IsAgg.of Tryd.underlying133 rfl
theorem ti_133 : TyInfo Tryd.prog 133 65 65 [.int .u8 0, .int .u8 0, .int .u8 0, .int .u8 0, .int .u8 0, .int .u8 0, .int .u8 0, .int .u8 0, .int .u8 0, .int .u8 0, .int .u8 0, .int .u8 0, .int .u8 0, .int .u8 0, .int .u8 0, .int .u8 0, .int .u8 0, .int .u8 0, .int .u8 0, .int .u8 0, .int .u8 0, .int .u8 0, .int .u8 0, .int .u8 0, .int .u8 0, .int .u8 0, .int .u8 0, .int .u8 0, .int .u8 0, .int .u8 0, .int .u8 0, .int .u8 0, .int .u8 0, .int .u8 0, .int .u8 0, .int .u8 0, .int .u8 0, .int .u8 0, .int .u8 0, .int .u8 0, .int .u8 0, .int .u8 0, .int .u8 0, .int .u8 0, .int .u8 0, .int .u8 0, .int .u8 0, .int .u8 0, .int .u8 0, .int .u8 0, .int .u8 0, .int .u8 0, .int .u8 0, .int .u8 0, .int .u8 0, .int .u8 0, .int .u8 0, .int .u8 0, .int .u8 0, .int .u8 0, .int .u8 0, .int .u8 0, .int .u8 0, .int .u8 0, .int .u8 0] := TyInfo.of (by kernel_rfl)
theorem ts_133 : TySize Tryd.prog 133 65 := ti_133.size
theorem ni_133 : ∃ d, Tryd.prog.underlying 133 = some d ∧ ∀ k, d ≠ .int k := notInt_of Tryd.underlying133 rfl
theorem sc_134 : Scalar Tryd.prog 134 := Scalar.of Tryd.underlying134 rfl
theorem ti_134 : TyInfo Tryd.prog 134 1 8 [.nilFunc] := TyInfo.of (by kernel_rfl)
theorem ts_134 : TySize Tryd.prog 134 1 := ti_134.size
theorem ni_134 : ∃ d, Tryd.prog.underlying 134 = some d ∧ ∀ k, d ≠ .int k := notInt_of Tryd.underlying134 rfl
theorem sc_135 : Scalar Tryd.prog 135 := Scalar.of Tryd.underlying135 rfl
theorem ti_135 : TyInfo Tryd.prog 135 1 8 [.nilFunc] := TyInfo.of (by kernel_rfl)
theorem ts_135 : TySize Tryd.prog 135 1 := ti_135.size
theorem ni_135 : ∃ d, Tryd.prog.underlying 135 = some d ∧ ∀ k, d ≠ .int k := notInt_of Tryd.underlying135 rfl
theorem sc_136 : Scalar Tryd.prog 136 := Scalar.of Tryd.underlying136 rfl
theorem ti_136 : TyInfo Tryd.prog 136 1 8 [.nilFunc] := TyInfo.of (by kernel_rfl)
theorem ts_136 : TySize Tryd.prog 136 1 := ti_136.size
theorem ni_136 : ∃ d, Tryd.prog.underlying 136 = some d ∧ ∀ k, d ≠ .int k := notInt_of Tryd.underlying136 rfl
theorem ag_137 : IsAgg Tryd.prog 137 := IsAgg.of Tryd.underlying137 rfl
theorem ti_137 : TyInfo Tryd.prog 137 32 32 [.int .u8 0, .int .u8 0, .int .u8 0, .int .u8 0, .int .u8 0, .int .u8 0, .int .u8 0, .int .u8 0, .int .u8 0, .int .u8 0, .int .u8 0, .int .u8 0, .int .u8 0, .int .u8 0, .int .u8 0, .int .u8 0, .int .u8 0, .int .u8 0, .int .u8 0, .int .u8 0, .int .u8 0, .int .u8 0, .int .u8 0, .int .u8 0, .int .u8 0, .int .u8 0, .int .u8 0, .int .u8 0, .int .u8 0, .int .u8 0, .int .u8 0, .int .u8 0] := TyInfo.of (by kernel_rfl)
theorem ts_137 : TySize Tryd.prog 137 32 := ti_137.size
theorem ni_137 : ∃ d, Tryd.prog.underlying 137 = some d ∧ ∀ k, d ≠ .int k := notInt_of Tryd.underlying137 rfl
theorem ag_138 : IsAgg Tryd.prog 138 := IsAgg.of Tryd.underlying138 rfl
theorem ti_138 : TyInfo Tryd.prog 138 64 64 [.int .u8 0, .int .u8 0, .int .u8 0, .int .u8 0, .int .u8 0, .int .u8 0, .int .u8 0, .int .u8 0, .int .u8 0, .int .u8 0, .int .u8 0, .int .u8 0, .int .u8 0, .int .u8 0, .int .u8 0, .int .u8 0, .int .u8 0, .int .u8 0, .int .u8 0, .int .u8 0, .int .u8 0, .int .u8 0, .int .u8 0, .int .u8 0, .int .u8 0, .int .u8 0, .int .u8 0, .int .u8 0, .int .u8 0, .int .u8 0, .int .u8 0, .int .u8 0, .int .u8 0, .int .u8 0, .int .u8 0, .int .u8 0, .int .u8 0, .int .u8 0, .int .u8 0, .int .u8 0, .int .u8 0, .int .u8 0, .int .u8 0, .int .u8 0, .int .u8 0, .int .u8 0, .int .u8 0, .int .u8 0, .int .u8 0, .int .u8 0, .int .u8 0, .int .u8 0, .int .u8 0, .int .u8 0, .int .u8 0, .int .u8 0, .int .u8 0, .int .u8 0, .int .u8 0, .int .u8 0, .int .u8 0, .int .u8 0, .int .u8 0, .int .u8 0] := TyInfo.of (by kernel_rfl)
theorem ts_138 : TySize Tryd.prog 138 64 := ti_138.size
theorem ni_138 : ∃ d, Tryd.prog.underlying 138 = some d ∧ ∀ k, d ≠ .int k := notInt_of Tryd.underlying138 rfl
theorem ag_139 : IsAgg Tryd.prog 139 := IsAgg.of Tryd.underlying139 rfl
theorem ti_139 : TyInfo Tryd.prog 139 4 40 [.pointer none, .pointer none, .pointer none, strV []] := TyInfo.of (by kernel_rfl)
theorem ts_139 : TySize Tryd.prog 139 4 := ti_139.size
theorem fa_139_0 : FieldAt Tryd.prog 139 0 0 17 := FieldAt.of (by kernel_rfl)
theorem fa_139_1 : FieldAt Tryd.prog 139 1 1 17 := FieldAt.of (by kernel_rfl)
theorem fa_139_2 : FieldAt Tryd.prog 139 2 2 17 := FieldAt.of (by kernel_rfl)
theorem fa_139_3 : FieldAt Tryd.prog 139 3 3 9 := FieldAt.of (by kernel_rfl)
theorem pl_139 : Places Tryd.prog 139 [(0, 1), (1, 1), (2, 1), (3, 1)] := Places.of Tryd.underlying139 (by kernel_rfl)
theorem ni_139 : ∃ d, Tryd.prog.underlying 139 = some d ∧ ∀ k, d ≠ .int k := notInt_of Tryd.underlying139 rfl
theorem ag_140 : IsAgg Tryd.prog 140 := IsAgg.of Tryd.underlying140 rfl
theorem ti_140 : TyInfo Tryd.prog 140 4 40 [.pointer none, .pointer none, .pointer none, strV []] := TyInfo.of (by kernel_rfl)
theorem ts_140 : TySize Tryd.prog 140 4 := ti_140.size
theorem fa_140_0 : FieldAt Tryd.prog 140 0 0 17 := FieldAt.of (by kernel_rfl)
theorem fa_140_1 : FieldAt Tryd.prog 140 1 1 17 := FieldAt.of (by kernel_rfl)
theorem fa_140_2 : FieldAt Tryd.prog 140 2 2 17 := FieldAt.of (by kernel_rfl)
theorem fa_140_3 : FieldAt Tryd.prog 140 3 3 9 := FieldAt.of (by kernel_rfl)
theorem pl_140 : Places Tryd.prog 140 [(0, 1), (1, 1), (2, 1), (3, 1)] := Places.of Tryd.underlying140 (by kernel_rfl)
theorem ni_140 : ∃ d, Tryd.prog.underlying 140 = some d ∧ ∀ k, d ≠ .int k := notInt_of Tryd.underlying140 rfl
theorem ag_141 : IsAgg Tryd.prog 141 := IsAgg.of Tryd.underlying141 rfl
theorem ti_141 : TyInfo Tryd.prog 141 0 0 [] := TyInfo.of (by kernel_rfl)
theorem ts_141 : TySize Tryd.prog 141 0 := ti_141.size
theorem ni_141 : ∃ d, Tryd.prog.underlying 141 = some d ∧ ∀ k, d ≠ .int k := notInt_of Tryd.underlying141 rfl
theorem ag_142 : IsAgg Tryd.prog 142 := IsAgg.of Tryd.underlying142 rfl
theorem ti_142 : TyInfo Tryd.prog 142 0 0 [] := TyInfo.of (by kernel_rfl)
theorem ts_142 : TySize Tryd.prog 142 0 := ti_142.size
theorem pl_142 : Places Tryd.prog 142 [(0, 0)] := Places.of Tryd.underlying142 (by kernel_rfl)
theorem ni_142 : ∃ d, Tryd.prog.underlying 142 = some d ∧ ∀ k, d ≠ .int k := notInt_of Tryd.underlying142 rfl
theorem ag_143 : IsAgg Tryd.prog 143 := IsAgg.of Tryd.underlying143 rfl
theorem ti_143 : TyInfo Tryd.prog 143 0 0 [] := TyInfo.of (by kernel_rfl)
theorem ts_143 : TySize Tryd.prog 143 0 := ti_143.size
theorem pl_143 : Places Tryd.prog 143 [(0, 0)] := Places.of Tryd.underlying143 (by kernel_rfl)
theorem ni_143 : ∃ d, Tryd.prog.underlying 143 = some d ∧ ∀ k, d ≠ .int k := notInt_of Tryd.underlying143 rfl
theorem sc_144 : Scalar Tryd.prog 144 := Scalar.of Tryd.underlying144 rfl
theorem ti_144 : TyInfo Tryd.prog 144 1 8 [.nilFunc] := TyInfo.of (by kernel_rfl)
theorem ts_144 : TySize Tryd.prog 144 1 := ti_144.size
theorem ni_144 : ∃ d, Tryd.prog.underlying 144 = some d ∧ ∀ k, d ≠ .int k := notInt_of Tryd.underlying144 rfl
theorem sc_145 : Scalar Tryd.prog 145 := Scalar.of Tryd.underlying145 rfl
theorem ti_145 : TyInfo Tryd.prog 145 1 1 [.int .u8 0] := TyInfo.of (by kernel_rfl)
theorem ts_145 : TySize Tryd.prog 145 1 := ti_145.size
theorem sc_146 : Scalar Tryd.prog 146 := Scalar.of Tryd.underlying146 rfl
theorem ti_146 : TyInfo Tryd.prog 146 1 1 [.int .u8 0] := TyInfo.of (by kernel_rfl)
theorem ts_146 : TySize Tryd.prog 146 1 := ti_146.size
theorem sc_147 : Scalar Tryd.prog 147 := Scalar.of Tryd.underlying147 rfl
theorem ti_147 : TyInfo Tryd.prog 147 1 8 [.nilFunc] := TyInfo.of (by kernel_rfl)
theorem ts_147 : TySize Tryd.prog 147 1 := ti_147.size
theorem ni_147 : ∃ d, Tryd.prog.underlying 147 = some d ∧ ∀ k, d ≠ .int k := notInt_of Tryd.underlying147 rfl
theorem sc_148 : Scalar Tryd.prog 148 := Scalar.of Tryd.underlying148 rfl
theorem ti_148 : TyInfo Tryd.prog 148 1 4 [.int .i32 0] := TyInfo.of (by kernel_rfl)
theorem ts_148 : TySize Tryd.prog 148 1 := ti_148.size
theorem sc_149 : Scalar Tryd.prog 149 := Scalar.of Tryd.underlying149 rfl
theorem ti_149 : TyInfo Tryd.prog 149 1 4 [.int .i32 0] := TyInfo.of (by kernel_rfl)
theorem ts_149 : TySize Tryd.prog 149 1 := ti_149.size
theorem ag_150 : IsAgg Tryd.prog 150 := IsAgg.of Tryd.underlying150 rfl
theorem ti_150 : TyInfo Tryd.prog 150 11 48 [.int .u64 0, .int .u64 0, .int .u32 0, .int .u8 0, .int .u8 0, .int .u8 0, .int .u8 0, .nilFunc, .pointer none, .int .i32 0, .int .i32 0] := TyInfo.of (by kernel_rfl)
theorem ts_150 : TySize Tryd.prog 150 11 := ti_150.size
theorem fa_150_0 : FieldAt Tryd.prog 150 0 0 12 := FieldAt.of (by kernel_rfl)
theorem fa_150_1 : FieldAt Tryd.prog 150 1 1 12 := FieldAt.of (by kernel_rfl)
theorem fa_150_2 : FieldAt Tryd.prog 150 2 2 111 := FieldAt.of (by kernel_rfl)
theorem fa_150_3 : FieldAt Tryd.prog 150 3 3 145 := FieldAt.of (by kernel_rfl)
theorem fa_150_4 : FieldAt Tryd.prog 150 4 4 5 := FieldAt.of (by kernel_rfl)
theorem fa_150_5 : FieldAt Tryd.prog 150 5 5 5 := FieldAt.of (by kernel_rfl)
theorem fa_150_6 : FieldAt Tryd.prog 150 6 6 146 := FieldAt.of (by kernel_rfl)
theorem fa_150_7 : FieldAt Tryd.prog 150 7 7 147 := FieldAt.of (by kernel_rfl)
theorem fa_150_8 : FieldAt Tryd.prog 150 8 8 66 := FieldAt.of (by kernel_rfl)
theorem fa_150_9 : FieldAt Tryd.prog 150 9 9 148 := FieldAt.of (by kernel_rfl)
theorem fa_150_10 : FieldAt Tryd.prog 150 10 10 149 := FieldAt.of (by kernel_rfl)
theorem pl_150 : Places Tryd.prog 150 [(0, 1), (1, 1), (2, 1), (3, 1), (4, 1), (5, 1), (6, 1), (7, 1), (8, 1), (9, 1), (10, 1)] := Places.of Tryd.underlying150 (by kernel_rfl)
theorem ni_150 : ∃ d, Tryd.prog.underlying 150 = some d ∧ ∀ k, d ≠ .int k := notInt_of Tryd.underlying150 rfl
theorem ag_151 : IsAgg Tryd.prog 151 := IsAgg.of Tryd.underlying151 rfl
theorem ti_151 : TyInfo Tryd.prog 151 11 48 [.int .u64 0, .int .u64 0, .int .u32 0, .int .u8 0, .int .u8 0, .int .u8 0, .int .u8 0, .nilFunc, .pointer none, .int .i32 0, .int .i32 0] := TyInfo.of (by kernel_rfl)
theorem ts_151 : TySize Tryd.prog 151 11 := ti_151.size
theorem fa_151_0 : FieldAt Tryd.prog 151 0 0 12 := FieldAt.of (by kernel_rfl)
theorem fa_151_1 : FieldAt Tryd.prog 151 1 1 12 := FieldAt.of (by kernel_rfl)
theorem fa_151_2 : FieldAt Tryd.prog 151 2 2 111 := FieldAt.of (by kernel_rfl)
theorem fa_151_3 : FieldAt Tryd.prog 151 3 3 145 := FieldAt.of (by kernel_rfl)
theorem fa_151_4 : FieldAt Tryd.prog 151 4 4 5 := FieldAt.of (by kernel_rfl)
theorem fa_151_5 : FieldAt Tryd.prog 151 5 5 5 := FieldAt.of (by kernel_rfl)
theorem fa_151_6 : FieldAt Tryd.prog 151 6 6 146 := FieldAt.of (by kernel_rfl)
theorem fa_151_7 : FieldAt Tryd.prog 151 7 7 147 := FieldAt.of (by kernel_rfl)
theorem fa_151_8 : FieldAt Tryd.prog 151 8 8 66 := FieldAt.of (by kernel_rfl)
theorem fa_151_9 : FieldAt Tryd.prog 151 9 9 148 := FieldAt.of (by kernel_rfl)
theorem fa_151_10 : FieldAt Tryd.prog 151 10 10 149 := FieldAt.of (by kernel_rfl)
theorem pl_151 : Places Tryd.prog 151 [(0, 1), (1, 1), (2, 1), (3, 1), (4, 1), (5, 1), (6, 1), (7, 1), (8, 1), (9, 1), (10, 1)] := Places.of Tryd.underlying151 (by kernel_rfl)
theorem ni_151 : ∃ d, Tryd.prog.underlying 151 = some d ∧ ∀ k, d ≠ .int k := notInt_of Tryd.underlying151 rfl
theorem sc_152 : Scalar Tryd.prog 152 := Scalar.of Tryd.underlying152 rfl
theorem ti_152 : TyInfo Tryd.prog 152 1 8 [.nilFunc] := TyInfo.of (by kernel_rfl)
theorem ts_152 : TySize Tryd.prog 152 1 := ti_152.size
theorem ni_152 : ∃ d, Tryd.prog.underlying 152 = some d ∧ ∀ k, d ≠ .int k := notInt_of Tryd.underlying152 rfl
theorem mixed : Tryd.prog.follows .mixedOrders = true := by kernel_rfl
end Go.Proofs.YtokbjejbgbdkoaaDoor
