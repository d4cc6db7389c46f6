/-
  Facts on the types of the program, each one closed equation. By program.
-/
import Derived.Test.YtokbjejbgbdkoaaGreatProg
import Derived.KernelRfl
import Derived.Test.YtokbjejbgbdkoaaGreatGSl9
set_option linter.unusedVariables false
set_option linter.unusedSimpArgs false
namespace Go.Proofs.YtokbjejbgbdkoaaGreat
open Go Go.Sl Go.Proofs
theorem sc_1 : Scalar Tryz.prog 1 := Scalar.of Tryz.underlying1 rfl
theorem ti_1 : TyInfo Tryz.prog 1 1 8 [.nilFunc] := TyInfo.of (by kernel_rfl)
theorem ts_1 : TySize Tryz.prog 1 1 := ti_1.size
theorem ni_1 : ∃ d, Tryz.prog.underlying 1 = some d ∧ ∀ k, d ≠ .int k := notInt_of Tryz.underlying1 rfl
theorem sc_2 : Scalar Tryz.prog 2 := Scalar.of Tryz.underlying2 rfl
theorem ti_2 : TyInfo Tryz.prog 2 1 8 [.int .i64 0] := TyInfo.of (by kernel_rfl)
theorem ts_2 : TySize Tryz.prog 2 1 := ti_2.size
theorem sc_3 : Scalar Tryz.prog 3 := Scalar.of Tryz.underlying3 rfl
theorem ti_3 : TyInfo Tryz.prog 3 1 8 [.int .i64 0] := TyInfo.of (by kernel_rfl)
theorem ts_3 : TySize Tryz.prog 3 1 := ti_3.size
theorem sc_4 : Scalar Tryz.prog 4 := Scalar.of Tryz.underlying4 rfl
theorem ti_4 : TyInfo Tryz.prog 4 1 1 [.bool false] := TyInfo.of (by kernel_rfl)
theorem ts_4 : TySize Tryz.prog 4 1 := ti_4.size
theorem ni_4 : ∃ d, Tryz.prog.underlying 4 = some d ∧ ∀ k, d ≠ .int k := notInt_of Tryz.underlying4 rfl
theorem sc_5 : Scalar Tryz.prog 5 := Scalar.of Tryz.underlying5 rfl
theorem ti_5 : TyInfo Tryz.prog 5 1 1 [.int .u8 0] := TyInfo.of (by kernel_rfl)
theorem ts_5 : TySize Tryz.prog 5 1 := ti_5.size
theorem sc_6 : Scalar Tryz.prog 6 := Scalar.of Tryz.underlying6 rfl
theorem ti_6 : TyInfo Tryz.prog 6 1 1 [.int .u8 0] := TyInfo.of (by kernel_rfl)
theorem ts_6 : TySize Tryz.prog 6 1 := ti_6.size
theorem ag_7 : IsAgg Tryz.prog 7 := IsAgg.of Tryz.underlying7 rfl
theorem ti_7 : TyInfo Tryz.prog 7 4 24 [.int .i64 0, .int .i64 0, .bool false, .int .u8 0] := TyInfo.of (by kernel_rfl)
theorem ts_7 : TySize Tryz.prog 7 4 := ti_7.size
theorem fa_7_0 : FieldAt Tryz.prog 7 0 0 2 := FieldAt.of (by kernel_rfl)
theorem fa_7_1 : FieldAt Tryz.prog 7 1 1 3 := FieldAt.of (by kernel_rfl)
theorem fa_7_2 : FieldAt Tryz.prog 7 2 2 4 := FieldAt.of (by kernel_rfl)
theorem fa_7_3 : FieldAt Tryz.prog 7 3 3 6 := FieldAt.of (by kernel_rfl)
theorem pl_7 : Places Tryz.prog 7 [(0, 1), (1, 1), (2, 1), (3, 1)] := Places.of Tryz.underlying7 (by kernel_rfl)
theorem ni_7 : ∃ d, Tryz.prog.underlying 7 = some d ∧ ∀ k, d ≠ .int k := notInt_of Tryz.underlying7 rfl
theorem ag_8 : IsAgg Tryz.prog 8 := IsAgg.of Tryz.underlying8 rfl
theorem ti_8 : TyInfo Tryz.prog 8 4 24 [.int .i64 0, .int .i64 0, .bool false, .int .u8 0] := TyInfo.of (by kernel_rfl)
theorem ts_8 : TySize Tryz.prog 8 4 := ti_8.size
theorem fa_8_0 : FieldAt Tryz.prog 8 0 0 2 := FieldAt.of (by kernel_rfl)
theorem fa_8_1 : FieldAt Tryz.prog 8 1 1 3 := FieldAt.of (by kernel_rfl)
theorem fa_8_2 : FieldAt Tryz.prog 8 2 2 4 := FieldAt.of (by kernel_rfl)
theorem fa_8_3 : FieldAt Tryz.prog 8 3 3 6 := FieldAt.of (by kernel_rfl)
theorem pl_8 : Places Tryz.prog 8 [(0, 1), (1, 1), (2, 1), (3, 1)] := Places.of Tryz.underlying8 (by kernel_rfl)
theorem ni_8 : ∃ d, Tryz.prog.underlying 8 = some d ∧ ∀ k, d ≠ .int k := notInt_of Tryz.underlying8 rfl
theorem sc_9 : Scalar Tryz.prog 9 := Scalar.of Tryz.underlying9 rfl
theorem ti_9 : TyInfo Tryz.prog 9 1 16 [strV []] := TyInfo.of (by kernel_rfl)
theorem ts_9 : TySize Tryz.prog 9 1 := ti_9.size
theorem ni_9 : ∃ d, Tryz.prog.underlying 9 = some d ∧ ∀ k, d ≠ .int k := notInt_of Tryz.underlying9 rfl
theorem sc_10 : Scalar Tryz.prog 10 := Scalar.of Tryz.underlying10 rfl
theorem ti_10 : TyInfo Tryz.prog 10 1 16 [strV []] := TyInfo.of (by kernel_rfl)
theorem ts_10 : TySize Tryz.prog 10 1 := ti_10.size
theorem ni_10 : ∃ d, Tryz.prog.underlying 10 = some d ∧ ∀ k, d ≠ .int k := notInt_of Tryz.underlying10 rfl
theorem sc_11 : Scalar Tryz.prog 11 := Scalar.of Tryz.underlying11 rfl
theorem ti_11 : TyInfo Tryz.prog 11 1 16 [strV []] := TyInfo.of (by kernel_rfl)
theorem ts_11 : TySize Tryz.prog 11 1 := ti_11.size
theorem ni_11 : ∃ d, Tryz.prog.underlying 11 = some d ∧ ∀ k, d ≠ .int k := notInt_of Tryz.underlying11 rfl
theorem sc_12 : Scalar Tryz.prog 12 := Scalar.of Tryz.underlying12 rfl
theorem ti_12 : TyInfo Tryz.prog 12 1 8 [.int .u64 0] := TyInfo.of (by kernel_rfl)
theorem ts_12 : TySize Tryz.prog 12 1 := ti_12.size
theorem ag_13 : IsAgg Tryz.prog 13 := IsAgg.of Tryz.underlying13 rfl
theorem ti_13 : TyInfo Tryz.prog 13 2 24 [strV [], .int .u64 0] := TyInfo.of (by kernel_rfl)
theorem ts_13 : TySize Tryz.prog 13 2 := ti_13.size
theorem fa_13_0 : FieldAt Tryz.prog 13 0 0 9 := FieldAt.of (by kernel_rfl)
theorem fa_13_1 : FieldAt Tryz.prog 13 1 1 12 := FieldAt.of (by kernel_rfl)
theorem pl_13 : Places Tryz.prog 13 [(0, 1), (1, 1)] := Places.of Tryz.underlying13 (by kernel_rfl)
theorem ni_13 : ∃ d, Tryz.prog.underlying 13 = some d ∧ ∀ k, d ≠ .int k := notInt_of Tryz.underlying13 rfl
theorem ag_14 : IsAgg Tryz.prog 14 := IsAgg.of Tryz.underlying14 rfl
theorem ti_14 : TyInfo Tryz.prog 14 2 24 [strV [], .int .u64 0] := TyInfo.of (by kernel_rfl)
theorem ts_14 : TySize Tryz.prog 14 2 := ti_14.size
theorem fa_14_0 : FieldAt Tryz.prog 14 0 0 9 := FieldAt.of (by kernel_rfl)
theorem fa_14_1 : FieldAt Tryz.prog 14 1 1 12 := FieldAt.of (by kernel_rfl)
theorem pl_14 : Places Tryz.prog 14 [(0, 1), (1, 1)] := Places.of Tryz.underlying14 (by kernel_rfl)
theorem ni_14 : ∃ d, Tryz.prog.underlying 14 = some d ∧ ∀ k, d ≠ .int k := notInt_of Tryz.underlying14 rfl
theorem sc_15 : Scalar Tryz.prog 15 := Scalar.of Tryz.underlying15 rfl
theorem ti_15 : TyInfo Tryz.prog 15 1 8 [.pointer none] := TyInfo.of (by kernel_rfl)
theorem ts_15 : TySize Tryz.prog 15 1 := ti_15.size
theorem ni_15 : ∃ d, Tryz.prog.underlying 15 = some d ∧ ∀ k, d ≠ .int k := notInt_of Tryz.underlying15 rfl
theorem sc_16 : Scalar Tryz.prog 16 := Scalar.of Tryz.underlying16 rfl
theorem ti_16 : TyInfo Tryz.prog 16 1 8 [.pointer none] := TyInfo.of (by kernel_rfl)
theorem ts_16 : TySize Tryz.prog 16 1 := ti_16.size
theorem ni_16 : ∃ d, Tryz.prog.underlying 16 = some d ∧ ∀ k, d ≠ .int k := notInt_of Tryz.underlying16 rfl
theorem sc_17 : Scalar Tryz.prog 17 := Scalar.of Tryz.underlying17 rfl
theorem ti_17 : TyInfo Tryz.prog 17 1 8 [.pointer none] := TyInfo.of (by kernel_rfl)
theorem ts_17 : TySize Tryz.prog 17 1 := ti_17.size
theorem ni_17 : ∃ d, Tryz.prog.underlying 17 = some d ∧ ∀ k, d ≠ .int k := notInt_of Tryz.underlying17 rfl
theorem ag_18 : IsAgg Tryz.prog 18 := IsAgg.of Tryz.underlying18 rfl
theorem ti_18 : TyInfo Tryz.prog 18 1 8 [.pointer none] := TyInfo.of (by kernel_rfl)
theorem ts_18 : TySize Tryz.prog 18 1 := ti_18.size
theorem fa_18_0 : FieldAt Tryz.prog 18 0 0 17 := FieldAt.of (by kernel_rfl)
theorem pl_18 : Places Tryz.prog 18 [(0, 1)] := Places.of Tryz.underlying18 (by kernel_rfl)
theorem ni_18 : ∃ d, Tryz.prog.underlying 18 = some d ∧ ∀ k, d ≠ .int k := notInt_of Tryz.underlying18 rfl
theorem ag_19 : IsAgg Tryz.prog 19 := IsAgg.of Tryz.underlying19 rfl
theorem ti_19 : TyInfo Tryz.prog 19 1 8 [.pointer none] := TyInfo.of (by kernel_rfl)
theorem ts_19 : TySize Tryz.prog 19 1 := ti_19.size
theorem fa_19_0 : FieldAt Tryz.prog 19 0 0 17 := FieldAt.of (by kernel_rfl)
theorem pl_19 : Places Tryz.prog 19 [(0, 1)] := Places.of Tryz.underlying19 (by kernel_rfl)
theorem ni_19 : ∃ d, Tryz.prog.underlying 19 = some d ∧ ∀ k, d ≠ .int k := notInt_of Tryz.underlying19 rfl
theorem sc_20 : Scalar Tryz.prog 20 := Scalar.of Tryz.underlying20 rfl
theorem ti_20 : TyInfo Tryz.prog 20 1 16 [.nilIface] := TyInfo.of (by kernel_rfl)
theorem ts_20 : TySize Tryz.prog 20 1 := ti_20.size
theorem ni_20 : ∃ d, Tryz.prog.underlying 20 = some d ∧ ∀ k, d ≠ .int k := notInt_of Tryz.underlying20 rfl
theorem sc_21 : Scalar Tryz.prog 21 := Scalar.of Tryz.underlying21 rfl
theorem ti_21 : TyInfo Tryz.prog 21 1 4 [.int .i32 0] := TyInfo.of (by kernel_rfl)
theorem ts_21 : TySize Tryz.prog 21 1 := ti_21.size
theorem sc_22 : Scalar Tryz.prog 22 := Scalar.of Tryz.underlying22 rfl
theorem ti_22 : TyInfo Tryz.prog 22 1 8 [.nilFunc] := TyInfo.of (by kernel_rfl)
theorem ts_22 : TySize Tryz.prog 22 1 := ti_22.size
theorem ni_22 : ∃ d, Tryz.prog.underlying 22 = some d ∧ ∀ k, d ≠ .int k := notInt_of Tryz.underlying22 rfl
theorem sc_23 : Scalar Tryz.prog 23 := Scalar.of Tryz.underlying23 rfl
theorem ti_23 : TyInfo Tryz.prog 23 1 8 [.nilFunc] := TyInfo.of (by kernel_rfl)
theorem ts_23 : TySize Tryz.prog 23 1 := ti_23.size
theorem ni_23 : ∃ d, Tryz.prog.underlying 23 = some d ∧ ∀ k, d ≠ .int k := notInt_of Tryz.underlying23 rfl
theorem sc_24 : Scalar Tryz.prog 24 := Scalar.of Tryz.underlying24 rfl
theorem ti_24 : TyInfo Tryz.prog 24 1 8 [.pointer none] := TyInfo.of (by kernel_rfl)
theorem ts_24 : TySize Tryz.prog 24 1 := ti_24.size
theorem ni_24 : ∃ d, Tryz.prog.underlying 24 = some d ∧ ∀ k, d ≠ .int k := notInt_of Tryz.underlying24 rfl
theorem sc_25 : Scalar Tryz.prog 25 := Scalar.of Tryz.underlying25 rfl
theorem ti_25 : TyInfo Tryz.prog 25 1 8 [.int .i64 0] := TyInfo.of (by kernel_rfl)
theorem ts_25 : TySize Tryz.prog 25 1 := ti_25.size
theorem sc_27 : Scalar Tryz.prog 27 := Scalar.of Tryz.underlying27 rfl
theorem ti_27 : TyInfo Tryz.prog 27 1 8 [.nilFunc] := TyInfo.of (by kernel_rfl)
theorem ts_27 : TySize Tryz.prog 27 1 := ti_27.size
theorem ni_27 : ∃ d, Tryz.prog.underlying 27 = some d ∧ ∀ k, d ≠ .int k := notInt_of Tryz.underlying27 rfl
theorem sc_28 : Scalar Tryz.prog 28 := Scalar.of Tryz.underlying28 rfl
theorem ti_28 : TyInfo Tryz.prog 28 1 8 [.pointer none] := TyInfo.of (by kernel_rfl)
theorem ts_28 : TySize Tryz.prog 28 1 := ti_28.size
theorem ni_28 : ∃ d, Tryz.prog.underlying 28 = some d ∧ ∀ k, d ≠ .int k := notInt_of Tryz.underlying28 rfl
theorem sc_30 : Scalar Tryz.prog 30 := Scalar.of Tryz.underlying30 rfl
theorem ti_30 : TyInfo Tryz.prog 30 1 8 [.nilFunc] := TyInfo.of (by kernel_rfl)
theorem ts_30 : TySize Tryz.prog 30 1 := ti_30.size
theorem ni_30 : ∃ d, Tryz.prog.underlying 30 = some d ∧ ∀ k, d ≠ .int k := notInt_of Tryz.underlying30 rfl
theorem sc_31 : Scalar Tryz.prog 31 := Scalar.of Tryz.underlying31 rfl
theorem ti_31 : TyInfo Tryz.prog 31 1 8 [.nilFunc] := TyInfo.of (by kernel_rfl)
theorem ts_31 : TySize Tryz.prog 31 1 := ti_31.size
theorem ni_31 : ∃ d, Tryz.prog.underlying 31 = some d ∧ ∀ k, d ≠ .int k := notInt_of Tryz.underlying31 rfl
theorem sc_32 : Scalar Tryz.prog 32 := Scalar.of Tryz.underlying32 rfl
theorem ti_32 : TyInfo Tryz.prog 32 1 24 [.slice none 0 0] := TyInfo.of (by kernel_rfl)
theorem ts_32 : TySize Tryz.prog 32 1 := ti_32.size
theorem ni_32 : ∃ d, Tryz.prog.underlying 32 = some d ∧ ∀ k, d ≠ .int k := notInt_of Tryz.underlying32 rfl
theorem sc_33 : Scalar Tryz.prog 33 := Scalar.of Tryz.underlying33 rfl
theorem ti_33 : TyInfo Tryz.prog 33 1 8 [.nilFunc] := TyInfo.of (by kernel_rfl)
theorem ts_33 : TySize Tryz.prog 33 1 := ti_33.size
theorem ni_33 : ∃ d, Tryz.prog.underlying 33 = some d ∧ ∀ k, d ≠ .int k := notInt_of Tryz.underlying33 rfl
theorem sc_34 : Scalar Tryz.prog 34 := Scalar.of Tryz.underlying34 rfl
theorem ti_34 : TyInfo Tryz.prog 34 1 8 [.nilFunc] := TyInfo.of (by kernel_rfl)
theorem ts_34 : TySize Tryz.prog 34 1 := ti_34.size
theorem ni_34 : ∃ d, Tryz.prog.underlying 34 = some d ∧ ∀ k, d ≠ .int k := notInt_of Tryz.underlying34 rfl
theorem sc_35 : Scalar Tryz.prog 35 := Scalar.of Tryz.underlying35 rfl
theorem ti_35 : TyInfo Tryz.prog 35 1 8 [.nilFunc] := TyInfo.of (by kernel_rfl)
theorem ts_35 : TySize Tryz.prog 35 1 := ti_35.size
theorem ni_35 : ∃ d, Tryz.prog.underlying 35 = some d ∧ ∀ k, d ≠ .int k := notInt_of Tryz.underlying35 rfl
theorem sc_36 : Scalar Tryz.prog 36 := Scalar.of Tryz.underlying36 rfl
theorem ti_36 : TyInfo Tryz.prog 36 1 8 [.nilFunc] := TyInfo.of (by kernel_rfl)
theorem ts_36 : TySize Tryz.prog 36 1 := ti_36.size
theorem ni_36 : ∃ d, Tryz.prog.underlying 36 = some d ∧ ∀ k, d ≠ .int k := notInt_of Tryz.underlying36 rfl
theorem sc_37 : Scalar Tryz.prog 37 := Scalar.of Tryz.underlying37 rfl
theorem ti_37 : TyInfo Tryz.prog 37 1 8 [.nilFunc] := TyInfo.of (by kernel_rfl)
theorem ts_37 : TySize Tryz.prog 37 1 := ti_37.size
theorem ni_37 : ∃ d, Tryz.prog.underlying 37 = some d ∧ ∀ k, d ≠ .int k := notInt_of Tryz.underlying37 rfl
theorem sc_39 : Scalar Tryz.prog 39 := Scalar.of Tryz.underlying39 rfl
theorem ti_39 : TyInfo Tryz.prog 39 1 8 [.nilFunc] := TyInfo.of (by kernel_rfl)
theorem ts_39 : TySize Tryz.prog 39 1 := ti_39.size
theorem ni_39 : ∃ d, Tryz.prog.underlying 39 = some d ∧ ∀ k, d ≠ .int k := notInt_of Tryz.underlying39 rfl
theorem ag_40 : IsAgg Tryz.prog 40 := IsAgg.of Tryz.underlying40 rfl
theorem ti_40 : TyInfo Tryz.prog 40 3 32 [strV [], .int .i64 0, .int .i64 0] := TyInfo.of (by kernel_rfl)
theorem ts_40 : TySize Tryz.prog 40 3 := ti_40.size
theorem fa_40_0 : FieldAt Tryz.prog 40 0 0 9 := FieldAt.of (by kernel_rfl)
theorem fa_40_1 : FieldAt Tryz.prog 40 1 1 3 := FieldAt.of (by kernel_rfl)
theorem fa_40_2 : FieldAt Tryz.prog 40 2 2 3 := FieldAt.of (by kernel_rfl)
theorem pl_40 : Places Tryz.prog 40 [(0, 1), (1, 1), (2, 1)] := Places.of Tryz.underlying40 (by kernel_rfl)
theorem ni_40 : ∃ d, Tryz.prog.underlying 40 = some d ∧ ∀ k, d ≠ .int k := notInt_of Tryz.underlying40 rfl
theorem ag_41 : IsAgg Tryz.prog 41 := IsAgg.of Tryz.underlying41 rfl
theorem ti_41 : TyInfo Tryz.prog 41 3 32 [strV [], .int .i64 0, .int .i64 0] := TyInfo.of (by kernel_rfl)
theorem ts_41 : TySize Tryz.prog 41 3 := ti_41.size
theorem fa_41_0 : FieldAt Tryz.prog 41 0 0 9 := FieldAt.of (by kernel_rfl)
theorem fa_41_1 : FieldAt Tryz.prog 41 1 1 3 := FieldAt.of (by kernel_rfl)
theorem fa_41_2 : FieldAt Tryz.prog 41 2 2 3 := FieldAt.of (by kernel_rfl)
theorem pl_41 : Places Tryz.prog 41 [(0, 1), (1, 1), (2, 1)] := Places.of Tryz.underlying41 (by kernel_rfl)
theorem ni_41 : ∃ d, Tryz.prog.underlying 41 = some d ∧ ∀ k, d ≠ .int k := notInt_of Tryz.underlying41 rfl
theorem sc_42 : Scalar Tryz.prog 42 := Scalar.of Tryz.underlying42 rfl
theorem ti_42 : TyInfo Tryz.prog 42 1 8 [.nilFunc] := TyInfo.of (by kernel_rfl)
theorem ts_42 : TySize Tryz.prog 42 1 := ti_42.size
theorem ni_42 : ∃ d, Tryz.prog.underlying 42 = some d ∧ ∀ k, d ≠ .int k := notInt_of Tryz.underlying42 rfl
theorem sc_44 : Scalar Tryz.prog 44 := Scalar.of Tryz.underlying44 rfl
theorem ti_44 : TyInfo Tryz.prog 44 1 8 [.nilFunc] := TyInfo.of (by kernel_rfl)
theorem ts_44 : TySize Tryz.prog 44 1 := ti_44.size
theorem ni_44 : ∃ d, Tryz.prog.underlying 44 = some d ∧ ∀ k, d ≠ .int k := notInt_of Tryz.underlying44 rfl
theorem sc_45 : Scalar Tryz.prog 45 := Scalar.of Tryz.underlying45 rfl
theorem ti_45 : TyInfo Tryz.prog 45 1 24 [.slice none 0 0] := TyInfo.of (by kernel_rfl)
theorem ts_45 : TySize Tryz.prog 45 1 := ti_45.size
theorem ni_45 : ∃ d, Tryz.prog.underlying 45 = some d ∧ ∀ k, d ≠ .int k := notInt_of Tryz.underlying45 rfl
theorem ag_46 : IsAgg Tryz.prog 46 := IsAgg.of Tryz.underlying46 rfl
theorem ti_46 : TyInfo Tryz.prog 46 1 24 [.slice none 0 0] := TyInfo.of (by kernel_rfl)
theorem ts_46 : TySize Tryz.prog 46 1 := ti_46.size
theorem fa_46_0 : FieldAt Tryz.prog 46 0 0 45 := FieldAt.of (by kernel_rfl)
theorem pl_46 : Places Tryz.prog 46 [(0, 1)] := Places.of Tryz.underlying46 (by kernel_rfl)
theorem ni_46 : ∃ d, Tryz.prog.underlying 46 = some d ∧ ∀ k, d ≠ .int k := notInt_of Tryz.underlying46 rfl
theorem ag_47 : IsAgg Tryz.prog 47 := IsAgg.of Tryz.underlying47 rfl
theorem ti_47 : TyInfo Tryz.prog 47 1 24 [.slice none 0 0] := TyInfo.of (by kernel_rfl)
theorem ts_47 : TySize Tryz.prog 47 1 := ti_47.size
theorem fa_47_0 : FieldAt Tryz.prog 47 0 0 45 := FieldAt.of (by kernel_rfl)
theorem pl_47 : Places Tryz.prog 47 [(0, 1)] := Places.of Tryz.underlying47 (by kernel_rfl)
theorem ni_47 : ∃ d, Tryz.prog.underlying 47 = some d ∧ ∀ k, d ≠ .int k := notInt_of Tryz.underlying47 rfl
theorem sc_48 : Scalar Tryz.prog 48 := Scalar.of Tryz.underlying48 rfl
theorem ti_48 : TyInfo Tryz.prog 48 1 24 [.slice none 0 0] := TyInfo.of (by kernel_rfl)
theorem ts_48 : TySize Tryz.prog 48 1 := ti_48.size
theorem ni_48 : ∃ d, Tryz.prog.underlying 48 = some d ∧ ∀ k, d ≠ .int k := notInt_of Tryz.underlying48 rfl
theorem sc_49 : Scalar Tryz.prog 49 := Scalar.of Tryz.underlying49 rfl
theorem ti_49 : TyInfo Tryz.prog 49 1 16 [.nilIface] := TyInfo.of (by kernel_rfl)
theorem ts_49 : TySize Tryz.prog 49 1 := ti_49.size
theorem ni_49 : ∃ d, Tryz.prog.underlying 49 = some d ∧ ∀ k, d ≠ .int k := notInt_of Tryz.underlying49 rfl
theorem sc_50 : Scalar Tryz.prog 50 := Scalar.of Tryz.underlying50 rfl
theorem ti_50 : TyInfo Tryz.prog 50 1 16 [.nilIface] := TyInfo.of (by kernel_rfl)
theorem ts_50 : TySize Tryz.prog 50 1 := ti_50.size
theorem ni_50 : ∃ d, Tryz.prog.underlying 50 = some d ∧ ∀ k, d ≠ .int k := notInt_of Tryz.underlying50 rfl
theorem sc_51 : Scalar Tryz.prog 51 := Scalar.of Tryz.underlying51 rfl
theorem ti_51 : TyInfo Tryz.prog 51 1 8 [.nilFunc] := TyInfo.of (by kernel_rfl)
theorem ts_51 : TySize Tryz.prog 51 1 := ti_51.size
theorem ni_51 : ∃ d, Tryz.prog.underlying 51 = some d ∧ ∀ k, d ≠ .int k := notInt_of Tryz.underlying51 rfl
theorem ag_52 : IsAgg Tryz.prog 52 := IsAgg.of Tryz.underlying52 rfl
theorem ti_52 : TyInfo Tryz.prog 52 24 256 [strV [], .int .i64 0, .int .i64 0, strV [], .int .i64 0, .int .i64 0, strV [], .int .i64 0, .int .i64 0, strV [], .int .i64 0, .int .i64 0, strV [], .int .i64 0, .int .i64 0, strV [], .int .i64 0, .int .i64 0, strV [], .int .i64 0, .int .i64 0, strV [], .int .i64 0, .int .i64 0] := TyInfo.of (by kernel_rfl)
theorem ts_52 : TySize Tryz.prog 52 24 := ti_52.size
theorem ni_52 : ∃ d, Tryz.prog.underlying 52 = some d ∧ ∀ k, d ≠ .int k := notInt_of Tryz.underlying52 rfl
theorem ag_53 : IsAgg Tryz.prog 53 := IsAgg.of Tryz.underlying53 rfl
theorem ti_53 : TyInfo Tryz.prog 53 26 280 [.nilIface, .int .i64 0, strV [], .int .i64 0, .int .i64 0, strV [], .int .i64 0, .int .i64 0, strV [], .int .i64 0, .int .i64 0, strV [], .int .i64 0, .int .i64 0, strV [], .int .i64 0, .int .i64 0, strV [], .int .i64 0, .int .i64 0, strV [], .int .i64 0, .int .i64 0, strV [], .int .i64 0, .int .i64 0] := TyInfo.of (by kernel_rfl)
theorem ts_53 : TySize Tryz.prog 53 26 := ti_53.size
theorem fa_53_0 : FieldAt Tryz.prog 53 0 0 50 := FieldAt.of (by kernel_rfl)
theorem fa_53_1 : FieldAt Tryz.prog 53 1 1 3 := FieldAt.of (by kernel_rfl)
theorem fa_53_2 : FieldAt Tryz.prog 53 2 2 52 := FieldAt.of (by kernel_rfl)
theorem pl_53 : Places Tryz.prog 53 [(0, 1), (1, 1), (2, 24)] := Places.of Tryz.underlying53 (by kernel_rfl)
theorem ni_53 : ∃ d, Tryz.prog.underlying 53 = some d ∧ ∀ k, d ≠ .int k := notInt_of Tryz.underlying53 rfl
theorem ag_54 : IsAgg Tryz.prog 54 := IsAgg.of Tryz.underlying54 rfl
theorem ti_54 : TyInfo Tryz.prog 54 26 280 [.nilIface, .int .i64 0, strV [], .int .i64 0, .int .i64 0, strV [], .int .i64 0, .int .i64 0, strV [], .int .i64 0, .int .i64 0, strV [], .int .i64 0, .int .i64 0, strV [], .int .i64 0, .int .i64 0, strV [], .int .i64 0, .int .i64 0, strV [], .int .i64 0, .int .i64 0, strV [], .int .i64 0, .int .i64 0] := TyInfo.of (by kernel_rfl)
theorem ts_54 : TySize Tryz.prog 54 26 := ti_54.size
theorem fa_54_0 : FieldAt Tryz.prog 54 0 0 50 := FieldAt.of (by kernel_rfl)
theorem fa_54_1 : FieldAt Tryz.prog 54 1 1 3 := FieldAt.of (by kernel_rfl)
theorem fa_54_2 : FieldAt Tryz.prog 54 2 2 52 := FieldAt.of (by kernel_rfl)
theorem pl_54 : Places Tryz.prog 54 [(0, 1), (1, 1), (2, 24)] := Places.of Tryz.underlying54 (by kernel_rfl)
theorem ni_54 : ∃ d, Tryz.prog.underlying 54 = some d ∧ ∀ k, d ≠ .int k := notInt_of Tryz.underlying54 rfl
theorem sc_55 : Scalar Tryz.prog 55 := Scalar.of Tryz.underlying55 rfl
theorem ti_55 : TyInfo Tryz.prog 55 1 8 [.nilFunc] := TyInfo.of (by kernel_rfl)
theorem ts_55 : TySize Tryz.prog 55 1 := ti_55.size
theorem ni_55 : ∃ d, Tryz.prog.underlying 55 = some d ∧ ∀ k, d ≠ .int k := notInt_of Tryz.underlying55 rfl
theorem sc_56 : Scalar Tryz.prog 56 := Scalar.of Tryz.underlying56 rfl
theorem ti_56 : TyInfo Tryz.prog 56 1 8 [.nilFunc] := TyInfo.of (by kernel_rfl)
theorem ts_56 : TySize Tryz.prog 56 1 := ti_56.size
theorem ni_56 : ∃ d, Tryz.prog.underlying 56 = some d ∧ ∀ k, d ≠ .int k := notInt_of Tryz.underlying56 rfl
theorem sc_57 : Scalar Tryz.prog 57 := Scalar.of Tryz.underlying57 rfl
theorem ti_57 : TyInfo Tryz.prog 57 1 8 [.nilFunc] := TyInfo.of (by kernel_rfl)
theorem ts_57 : TySize Tryz.prog 57 1 := ti_57.size
theorem ni_57 : ∃ d, Tryz.prog.underlying 57 = some d ∧ ∀ k, d ≠ .int k := notInt_of Tryz.underlying57 rfl
theorem sc_59 : Scalar Tryz.prog 59 := Scalar.of Tryz.underlying59 rfl
theorem ti_59 : TyInfo Tryz.prog 59 1 8 [.nilFunc] := TyInfo.of (by kernel_rfl)
theorem ts_59 : TySize Tryz.prog 59 1 := ti_59.size
theorem ni_59 : ∃ d, Tryz.prog.underlying 59 = some d ∧ ∀ k, d ≠ .int k := notInt_of Tryz.underlying59 rfl
theorem sc_61 : Scalar Tryz.prog 61 := Scalar.of Tryz.underlying61 rfl
theorem ti_61 : TyInfo Tryz.prog 61 1 8 [.nilFunc] := TyInfo.of (by kernel_rfl)
theorem ts_61 : TySize Tryz.prog 61 1 := ti_61.size
theorem ni_61 : ∃ d, Tryz.prog.underlying 61 = some d ∧ ∀ k, d ≠ .int k := notInt_of Tryz.underlying61 rfl
theorem sc_62 : Scalar Tryz.prog 62 := Scalar.of Tryz.underlying62 rfl
theorem ti_62 : TyInfo Tryz.prog 62 1 8 [.nilFunc] := TyInfo.of (by kernel_rfl)
theorem ts_62 : TySize Tryz.prog 62 1 := ti_62.size
theorem ni_62 : ∃ d, Tryz.prog.underlying 62 = some d ∧ ∀ k, d ≠ .int k := notInt_of Tryz.underlying62 rfl
theorem sc_63 : Scalar Tryz.prog 63 := Scalar.of Tryz.underlying63 rfl
theorem ti_63 : TyInfo Tryz.prog 63 1 8 [.nilFunc] := TyInfo.of (by kernel_rfl)
theorem ts_63 : TySize Tryz.prog 63 1 := ti_63.size
theorem ni_63 : ∃ d, Tryz.prog.underlying 63 = some d ∧ ∀ k, d ≠ .int k := notInt_of Tryz.underlying63 rfl
theorem sc_65 : Scalar Tryz.prog 65 := Scalar.of Tryz.underlying65 rfl
theorem ti_65 : TyInfo Tryz.prog 65 1 8 [.nilFunc] := TyInfo.of (by kernel_rfl)
theorem ts_65 : TySize Tryz.prog 65 1 := ti_65.size
theorem ni_65 : ∃ d, Tryz.prog.underlying 65 = some d ∧ ∀ k, d ≠ .int k := notInt_of Tryz.underlying65 rfl
theorem sc_66 : Scalar Tryz.prog 66 := Scalar.of Tryz.underlying66 rfl
theorem ti_66 : TyInfo Tryz.prog 66 1 8 [.nilFunc] := TyInfo.of (by kernel_rfl)
theorem ts_66 : TySize Tryz.prog 66 1 := ti_66.size
theorem ni_66 : ∃ d, Tryz.prog.underlying 66 = some d ∧ ∀ k, d ≠ .int k := notInt_of Tryz.underlying66 rfl
theorem sc_67 : Scalar Tryz.prog 67 := Scalar.of Tryz.underlying67 rfl
theorem ti_67 : TyInfo Tryz.prog 67 1 8 [.nilFunc] := TyInfo.of (by kernel_rfl)
theorem ts_67 : TySize Tryz.prog 67 1 := ti_67.size
theorem ni_67 : ∃ d, Tryz.prog.underlying 67 = some d ∧ ∀ k, d ≠ .int k := notInt_of Tryz.underlying67 rfl
theorem sc_68 : Scalar Tryz.prog 68 := Scalar.of Tryz.underlying68 rfl
theorem ti_68 : TyInfo Tryz.prog 68 1 8 [.nilFunc] := TyInfo.of (by kernel_rfl)
theorem ts_68 : TySize Tryz.prog 68 1 := ti_68.size
theorem ni_68 : ∃ d, Tryz.prog.underlying 68 = some d ∧ ∀ k, d ≠ .int k := notInt_of Tryz.underlying68 rfl
theorem sc_69 : Scalar Tryz.prog 69 := Scalar.of Tryz.underlying69 rfl
theorem ti_69 : TyInfo Tryz.prog 69 1 8 [.pointer none] := TyInfo.of (by kernel_rfl)
theorem ts_69 : TySize Tryz.prog 69 1 := ti_69.size
theorem ni_69 : ∃ d, Tryz.prog.underlying 69 = some d ∧ ∀ k, d ≠ .int k := notInt_of Tryz.underlying69 rfl
theorem sc_71 : Scalar Tryz.prog 71 := Scalar.of Tryz.underlying71 rfl
theorem ti_71 : TyInfo Tryz.prog 71 1 8 [.nilFunc] := TyInfo.of (by kernel_rfl)
theorem ts_71 : TySize Tryz.prog 71 1 := ti_71.size
theorem ni_71 : ∃ d, Tryz.prog.underlying 71 = some d ∧ ∀ k, d ≠ .int k := notInt_of Tryz.underlying71 rfl
theorem ag_72 : IsAgg Tryz.prog 72 := IsAgg.of Tryz.underlying72 rfl
theorem ti_72 : TyInfo Tryz.prog 72 7 56 [.int .i64 0, .int .i64 0, .int .i64 0, .int .i64 0, .int .i64 0, .int .i64 0, .bool false] := TyInfo.of (by kernel_rfl)
theorem ts_72 : TySize Tryz.prog 72 7 := ti_72.size
theorem fa_72_0 : FieldAt Tryz.prog 72 0 0 3 := FieldAt.of (by kernel_rfl)
theorem fa_72_1 : FieldAt Tryz.prog 72 1 1 3 := FieldAt.of (by kernel_rfl)
theorem fa_72_2 : FieldAt Tryz.prog 72 2 2 3 := FieldAt.of (by kernel_rfl)
theorem fa_72_3 : FieldAt Tryz.prog 72 3 3 3 := FieldAt.of (by kernel_rfl)
theorem fa_72_4 : FieldAt Tryz.prog 72 4 4 3 := FieldAt.of (by kernel_rfl)
theorem fa_72_5 : FieldAt Tryz.prog 72 5 5 3 := FieldAt.of (by kernel_rfl)
theorem fa_72_6 : FieldAt Tryz.prog 72 6 6 4 := FieldAt.of (by kernel_rfl)
theorem pl_72 : Places Tryz.prog 72 [(0, 1), (1, 1), (2, 1), (3, 1), (4, 1), (5, 1), (6, 1)] := Places.of Tryz.underlying72 (by kernel_rfl)
theorem ni_72 : ∃ d, Tryz.prog.underlying 72 = some d ∧ ∀ k, d ≠ .int k := notInt_of Tryz.underlying72 rfl
theorem ag_73 : IsAgg Tryz.prog 73 := IsAgg.of Tryz.underlying73 rfl
theorem ti_73 : TyInfo Tryz.prog 73 7 56 [.int .i64 0, .int .i64 0, .int .i64 0, .int .i64 0, .int .i64 0, .int .i64 0, .bool false] := TyInfo.of (by kernel_rfl)
theorem ts_73 : TySize Tryz.prog 73 7 := ti_73.size
theorem fa_73_0 : FieldAt Tryz.prog 73 0 0 3 := FieldAt.of (by kernel_rfl)
theorem fa_73_1 : FieldAt Tryz.prog 73 1 1 3 := FieldAt.of (by kernel_rfl)
theorem fa_73_2 : FieldAt Tryz.prog 73 2 2 3 := FieldAt.of (by kernel_rfl)
theorem fa_73_3 : FieldAt Tryz.prog 73 3 3 3 := FieldAt.of (by kernel_rfl)
theorem fa_73_4 : FieldAt Tryz.prog 73 4 4 3 := FieldAt.of (by kernel_rfl)
theorem fa_73_5 : FieldAt Tryz.prog 73 5 5 3 := FieldAt.of (by kernel_rfl)
theorem fa_73_6 : FieldAt Tryz.prog 73 6 6 4 := FieldAt.of (by kernel_rfl)
theorem pl_73 : Places Tryz.prog 73 [(0, 1), (1, 1), (2, 1), (3, 1), (4, 1), (5, 1), (6, 1)] := Places.of Tryz.underlying73 (by kernel_rfl)
theorem ni_73 : ∃ d, Tryz.prog.underlying 73 = some d ∧ ∀ k, d ≠ .int k := notInt_of Tryz.underlying73 rfl
theorem sc_74 : Scalar Tryz.prog 74 := Scalar.of Tryz.underlying74 rfl
theorem ti_74 : TyInfo Tryz.prog 74 1 8 [.nilFunc] := TyInfo.of (by kernel_rfl)
theorem ts_74 : TySize Tryz.prog 74 1 := ti_74.size
theorem ni_74 : ∃ d, Tryz.prog.underlying 74 = some d ∧ ∀ k, d ≠ .int k := notInt_of Tryz.underlying74 rfl
theorem sc_75 : Scalar Tryz.prog 75 := Scalar.of Tryz.underlying75 rfl
theorem ti_75 : TyInfo Tryz.prog 75 1 8 [.nilFunc] := TyInfo.of (by kernel_rfl)
theorem ts_75 : TySize Tryz.prog 75 1 := ti_75.size
theorem ni_75 : ∃ d, Tryz.prog.underlying 75 = some d ∧ ∀ k, d ≠ .int k := notInt_of Tryz.underlying75 rfl
theorem sc_76 : Scalar Tryz.prog 76 := Scalar.of Tryz.underlying76 rfl
theorem ti_76 : TyInfo Tryz.prog 76 1 4 [.int .u32 0] := TyInfo.of (by kernel_rfl)
theorem ts_76 : TySize Tryz.prog 76 1 := ti_76.size
theorem sc_77 : Scalar Tryz.prog 77 := Scalar.of Tryz.underlying77 rfl
theorem ti_77 : TyInfo Tryz.prog 77 1 8 [.nilFunc] := TyInfo.of (by kernel_rfl)
theorem ts_77 : TySize Tryz.prog 77 1 := ti_77.size
theorem ni_77 : ∃ d, Tryz.prog.underlying 77 = some d ∧ ∀ k, d ≠ .int k := notInt_of Tryz.underlying77 rfl
theorem sc_78 : Scalar Tryz.prog 78 := Scalar.of Tryz.underlying78 rfl
theorem ti_78 : TyInfo Tryz.prog 78 1 8 [.nilFunc] := TyInfo.of (by kernel_rfl)
theorem ts_78 : TySize Tryz.prog 78 1 := ti_78.size
theorem ni_78 : ∃ d, Tryz.prog.underlying 78 = some d ∧ ∀ k, d ≠ .int k := notInt_of Tryz.underlying78 rfl
theorem ag_79 : IsAgg Tryz.prog 79 := IsAgg.of Tryz.underlying79 rfl
theorem ti_79 : TyInfo Tryz.prog 79 11 88 [.int .i64 0, .int .i64 0, .int .i64 0, .int .i64 0, .int .i64 0, .int .i64 0, .int .i64 0, .int .i64 0, .int .i64 0, .int .i64 0, .int .i64 0] := TyInfo.of (by kernel_rfl)
theorem ts_79 : TySize Tryz.prog 79 11 := ti_79.size
theorem fa_79_0 : FieldAt Tryz.prog 79 0 0 3 := FieldAt.of (by kernel_rfl)
theorem fa_79_1 : FieldAt Tryz.prog 79 1 1 3 := FieldAt.of (by kernel_rfl)
theorem fa_79_2 : FieldAt Tryz.prog 79 2 2 3 := FieldAt.of (by kernel_rfl)
theorem fa_79_3 : FieldAt Tryz.prog 79 3 3 3 := FieldAt.of (by kernel_rfl)
theorem fa_79_4 : FieldAt Tryz.prog 79 4 4 3 := FieldAt.of (by kernel_rfl)
theorem fa_79_5 : FieldAt Tryz.prog 79 5 5 3 := FieldAt.of (by kernel_rfl)
theorem fa_79_6 : FieldAt Tryz.prog 79 6 6 3 := FieldAt.of (by kernel_rfl)
theorem fa_79_7 : FieldAt Tryz.prog 79 7 7 3 := FieldAt.of (by kernel_rfl)
theorem fa_79_8 : FieldAt Tryz.prog 79 8 8 3 := FieldAt.of (by kernel_rfl)
theorem fa_79_9 : FieldAt Tryz.prog 79 9 9 3 := FieldAt.of (by kernel_rfl)
theorem fa_79_10 : FieldAt Tryz.prog 79 10 10 3 := FieldAt.of (by kernel_rfl)
theorem pl_79 : Places Tryz.prog 79 [(0, 1), (1, 1), (2, 1), (3, 1), (4, 1), (5, 1), (6, 1), (7, 1), (8, 1), (9, 1), (10, 1)] := Places.of Tryz.underlying79 (by kernel_rfl)
theorem ni_79 : ∃ d, Tryz.prog.underlying 79 = some d ∧ ∀ k, d ≠ .int k := notInt_of Tryz.underlying79 rfl
theorem ag_80 : IsAgg Tryz.prog 80 := IsAgg.of Tryz.underlying80 rfl
theorem ti_80 : TyInfo Tryz.prog 80 11 88 [.int .i64 0, .int .i64 0, .int .i64 0, .int .i64 0, .int .i64 0, .int .i64 0, .int .i64 0, .int .i64 0, .int .i64 0, .int .i64 0, .int .i64 0] := TyInfo.of (by kernel_rfl)
theorem ts_80 : TySize Tryz.prog 80 11 := ti_80.size
theorem fa_80_0 : FieldAt Tryz.prog 80 0 0 3 := FieldAt.of (by kernel_rfl)
theorem fa_80_1 : FieldAt Tryz.prog 80 1 1 3 := FieldAt.of (by kernel_rfl)
theorem fa_80_2 : FieldAt Tryz.prog 80 2 2 3 := FieldAt.of (by kernel_rfl)
theorem fa_80_3 : FieldAt Tryz.prog 80 3 3 3 := FieldAt.of (by kernel_rfl)
theorem fa_80_4 : FieldAt Tryz.prog 80 4 4 3 := FieldAt.of (by kernel_rfl)
theorem fa_80_5 : FieldAt Tryz.prog 80 5 5 3 := FieldAt.of (by kernel_rfl)
theorem fa_80_6 : FieldAt Tryz.prog 80 6 6 3 := FieldAt.of (by kernel_rfl)
theorem fa_80_7 : FieldAt Tryz.prog 80 7 7 3 := FieldAt.of (by kernel_rfl)
theorem fa_80_8 : FieldAt Tryz.prog 80 8 8 3 := FieldAt.of (by kernel_rfl)
theorem fa_80_9 : FieldAt Tryz.prog 80 9 9 3 := FieldAt.of (by kernel_rfl)
theorem fa_80_10 : FieldAt Tryz.prog 80 10 10 3 := FieldAt.of (by kernel_rfl)
theorem pl_80 : Places Tryz.prog 80 [(0, 1), (1, 1), (2, 1), (3, 1), (4, 1), (5, 1), (6, 1), (7, 1), (8, 1), (9, 1), (10, 1)] := Places.of Tryz.underlying80 (by kernel_rfl)
theorem ni_80 : ∃ d, Tryz.prog.underlying 80 = some d ∧ ∀ k, d ≠ .int k := notInt_of Tryz.underlying80 rfl
theorem sc_81 : Scalar Tryz.prog 81 := Scalar.of Tryz.underlying81 rfl
theorem ti_81 : TyInfo Tryz.prog 81 1 8 [.pointer none] := TyInfo.of (by kernel_rfl)
theorem ts_81 : TySize Tryz.prog 81 1 := ti_81.size
theorem ni_81 : ∃ d, Tryz.prog.underlying 81 = some d ∧ ∀ k, d ≠ .int k := notInt_of Tryz.underlying81 rfl
theorem sc_82 : Scalar Tryz.prog 82 := Scalar.of Tryz.underlying82 rfl
theorem ti_82 : TyInfo Tryz.prog 82 1 16 [.nilIface] := TyInfo.of (by kernel_rfl)
theorem ts_82 : TySize Tryz.prog 82 1 := ti_82.size
theorem ni_82 : ∃ d, Tryz.prog.underlying 82 = some d ∧ ∀ k, d ≠ .int k := notInt_of Tryz.underlying82 rfl
theorem sc_83 : Scalar Tryz.prog 83 := Scalar.of Tryz.underlying83 rfl
theorem ti_83 : TyInfo Tryz.prog 83 1 16 [.nilIface] := TyInfo.of (by kernel_rfl)
theorem ts_83 : TySize Tryz.prog 83 1 := ti_83.size
theorem ni_83 : ∃ d, Tryz.prog.underlying 83 = some d ∧ ∀ k, d ≠ .int k := notInt_of Tryz.underlying83 rfl
theorem ag_84 : IsAgg Tryz.prog 84 := IsAgg.of Tryz.underlying84 rfl
theorem ti_84 : TyInfo Tryz.prog 84 4 32 [.int .i64 0, .int .i64 0, .int .i64 0, .int .i64 0] := TyInfo.of (by kernel_rfl)
theorem ts_84 : TySize Tryz.prog 84 4 := ti_84.size
theorem fa_84_0 : FieldAt Tryz.prog 84 0 0 3 := FieldAt.of (by kernel_rfl)
theorem fa_84_1 : FieldAt Tryz.prog 84 1 1 3 := FieldAt.of (by kernel_rfl)
theorem fa_84_2 : FieldAt Tryz.prog 84 2 2 3 := FieldAt.of (by kernel_rfl)
theorem fa_84_3 : FieldAt Tryz.prog 84 3 3 3 := FieldAt.of (by kernel_rfl)
theorem pl_84 : Places Tryz.prog 84 [(0, 1), (1, 1), (2, 1), (3, 1)] := Places.of Tryz.underlying84 (by kernel_rfl)
theorem ni_84 : ∃ d, Tryz.prog.underlying 84 = some d ∧ ∀ k, d ≠ .int k := notInt_of Tryz.underlying84 rfl
theorem ag_85 : IsAgg Tryz.prog 85 := IsAgg.of Tryz.underlying85 rfl
theorem ti_85 : TyInfo Tryz.prog 85 4 32 [.int .i64 0, .int .i64 0, .int .i64 0, .int .i64 0] := TyInfo.of (by kernel_rfl)
theorem ts_85 : TySize Tryz.prog 85 4 := ti_85.size
theorem fa_85_0 : FieldAt Tryz.prog 85 0 0 3 := FieldAt.of (by kernel_rfl)
theorem fa_85_1 : FieldAt Tryz.prog 85 1 1 3 := FieldAt.of (by kernel_rfl)
theorem fa_85_2 : FieldAt Tryz.prog 85 2 2 3 := FieldAt.of (by kernel_rfl)
theorem fa_85_3 : FieldAt Tryz.prog 85 3 3 3 := FieldAt.of (by kernel_rfl)
theorem pl_85 : Places Tryz.prog 85 [(0, 1), (1, 1), (2, 1), (3, 1)] := Places.of Tryz.underlying85 (by kernel_rfl)
theorem ni_85 : ∃ d, Tryz.prog.underlying 85 = some d ∧ ∀ k, d ≠ .int k := notInt_of Tryz.underlying85 rfl
theorem sc_86 : Scalar Tryz.prog 86 := Scalar.of Tryz.underlying86 rfl
theorem ti_86 : TyInfo Tryz.prog 86 1 24 [.slice none 0 0] := TyInfo.of (by kernel_rfl)
theorem ts_86 : TySize Tryz.prog 86 1 := ti_86.size
theorem ni_86 : ∃ d, Tryz.prog.underlying 86 = some d ∧ ∀ k, d ≠ .int k := notInt_of Tryz.underlying86 rfl
theorem sc_87 : Scalar Tryz.prog 87 := Scalar.of Tryz.underlying87 rfl
theorem ti_87 : TyInfo Tryz.prog 87 1 24 [.slice none 0 0] := TyInfo.of (by kernel_rfl)
theorem ts_87 : TySize Tryz.prog 87 1 := ti_87.size
theorem ni_87 : ∃ d, Tryz.prog.underlying 87 = some d ∧ ∀ k, d ≠ .int k := notInt_of Tryz.underlying87 rfl
theorem ag_88 : IsAgg Tryz.prog 88 := IsAgg.of Tryz.underlying88 rfl
theorem ti_88 : TyInfo Tryz.prog 88 37 376 [.int .i64 0, .int .i64 0, .int .i64 0, .int .i64 0, .int .i64 0, .int .i64 0, .bool false, .int .i64 0, .int .i64 0, .int .i64 0, .int .i64 0, .int .i64 0, .int .i64 0, .int .i64 0, .int .i64 0, .int .i64 0, .int .i64 0, .int .i64 0, .pointer none, .bool false, .nilIface, .int .i64 0, .int .i64 0, .int .i64 0, .int .i64 0, .slice none 0 0, .slice none 0 0, .int .i64 0, .int .i64 0, .int .u32 0, .int .u32 0, .int .u32 0, .slice none 0 0, .slice none 0 0, .int .i64 0, .int .i64 0, .slice none 0 0] := TyInfo.of (by kernel_rfl)
theorem ts_88 : TySize Tryz.prog 88 37 := ti_88.size
theorem fa_88_0 : FieldAt Tryz.prog 88 0 0 73 := FieldAt.of (by kernel_rfl)
theorem fa_88_1 : FieldAt Tryz.prog 88 1 7 80 := FieldAt.of (by kernel_rfl)
theorem fa_88_2 : FieldAt Tryz.prog 88 2 18 81 := FieldAt.of (by kernel_rfl)
theorem fa_88_3 : FieldAt Tryz.prog 88 3 19 4 := FieldAt.of (by kernel_rfl)
theorem fa_88_4 : FieldAt Tryz.prog 88 4 20 83 := FieldAt.of (by kernel_rfl)
theorem fa_88_5 : FieldAt Tryz.prog 88 5 21 85 := FieldAt.of (by kernel_rfl)
theorem fa_88_6 : FieldAt Tryz.prog 88 6 25 86 := FieldAt.of (by kernel_rfl)
theorem fa_88_7 : FieldAt Tryz.prog 88 7 26 86 := FieldAt.of (by kernel_rfl)
theorem fa_88_8 : FieldAt Tryz.prog 88 8 27 3 := FieldAt.of (by kernel_rfl)
theorem fa_88_9 : FieldAt Tryz.prog 88 9 28 3 := FieldAt.of (by kernel_rfl)
theorem fa_88_10 : FieldAt Tryz.prog 88 10 29 76 := FieldAt.of (by kernel_rfl)
theorem fa_88_11 : FieldAt Tryz.prog 88 11 30 76 := FieldAt.of (by kernel_rfl)
theorem fa_88_12 : FieldAt Tryz.prog 88 12 31 76 := FieldAt.of (by kernel_rfl)
theorem fa_88_13 : FieldAt Tryz.prog 88 13 32 87 := FieldAt.of (by kernel_rfl)
theorem fa_88_14 : FieldAt Tryz.prog 88 14 33 87 := FieldAt.of (by kernel_rfl)
theorem fa_88_15 : FieldAt Tryz.prog 88 15 34 3 := FieldAt.of (by kernel_rfl)
theorem fa_88_16 : FieldAt Tryz.prog 88 16 35 3 := FieldAt.of (by kernel_rfl)
theorem fa_88_17 : FieldAt Tryz.prog 88 17 36 87 := FieldAt.of (by kernel_rfl)
theorem pl_88 : Places Tryz.prog 88 [(0, 7), (7, 11), (18, 1), (19, 1), (20, 1), (21, 4), (25, 1), (26, 1), (27, 1), (28, 1), (29, 1), (30, 1), (31, 1), (32, 1), (33, 1), (34, 1), (35, 1), (36, 1)] := Places.of Tryz.underlying88 (by kernel_rfl)
theorem ni_88 : ∃ d, Tryz.prog.underlying 88 = some d ∧ ∀ k, d ≠ .int k := notInt_of Tryz.underlying88 rfl
theorem ag_89 : IsAgg Tryz.prog 89 := IsAgg.of Tryz.underlying89 rfl
theorem ti_89 : TyInfo Tryz.prog 89 37 376 [.int .i64 0, .int .i64 0, .int .i64 0, .int .i64 0, .int .i64 0, .int .i64 0, .bool false, .int .i64 0, .int .i64 0, .int .i64 0, .int .i64 0, .int .i64 0, .int .i64 0, .int .i64 0, .int .i64 0, .int .i64 0, .int .i64 0, .int .i64 0, .pointer none, .bool false, .nilIface, .int .i64 0, .int .i64 0, .int .i64 0, .int .i64 0, .slice none 0 0, .slice none 0 0, .int .i64 0, .int .i64 0, .int .u32 0, .int .u32 0, .int .u32 0, .slice none 0 0, .slice none 0 0, .int .i64 0, .int .i64 0, .slice none 0 0] := TyInfo.of (by kernel_rfl)
theorem ts_89 : TySize Tryz.prog 89 37 := ti_89.size
theorem fa_89_0 : FieldAt Tryz.prog 89 0 0 73 := FieldAt.of (by kernel_rfl)
theorem fa_89_1 : FieldAt Tryz.prog 89 1 7 80 := FieldAt.of (by kernel_rfl)
theorem fa_89_2 : FieldAt Tryz.prog 89 2 18 81 := FieldAt.of (by kernel_rfl)
theorem fa_89_3 : FieldAt Tryz.prog 89 3 19 4 := FieldAt.of (by kernel_rfl)
theorem fa_89_4 : FieldAt Tryz.prog 89 4 20 83 := FieldAt.of (by kernel_rfl)
theorem fa_89_5 : FieldAt Tryz.prog 89 5 21 85 := FieldAt.of (by kernel_rfl)
theorem fa_89_6 : FieldAt Tryz.prog 89 6 25 86 := FieldAt.of (by kernel_rfl)
theorem fa_89_7 : FieldAt Tryz.prog 89 7 26 86 := FieldAt.of (by kernel_rfl)
theorem fa_89_8 : FieldAt Tryz.prog 89 8 27 3 := FieldAt.of (by kernel_rfl)
theorem fa_89_9 : FieldAt Tryz.prog 89 9 28 3 := FieldAt.of (by kernel_rfl)
theorem fa_89_10 : FieldAt Tryz.prog 89 10 29 76 := FieldAt.of (by kernel_rfl)
theorem fa_89_11 : FieldAt Tryz.prog 89 11 30 76 := FieldAt.of (by kernel_rfl)
theorem fa_89_12 : FieldAt Tryz.prog 89 12 31 76 := FieldAt.of (by kernel_rfl)
theorem fa_89_13 : FieldAt Tryz.prog 89 13 32 87 := FieldAt.of (by kernel_rfl)
theorem fa_89_14 : FieldAt Tryz.prog 89 14 33 87 := FieldAt.of (by kernel_rfl)
theorem fa_89_15 : FieldAt Tryz.prog 89 15 34 3 := FieldAt.of (by kernel_rfl)
theorem fa_89_16 : FieldAt Tryz.prog 89 16 35 3 := FieldAt.of (by kernel_rfl)
theorem fa_89_17 : FieldAt Tryz.prog 89 17 36 87 := FieldAt.of (by kernel_rfl)
theorem pl_89 : Places Tryz.prog 89 [(0, 7), (7, 11), (18, 1), (19, 1), (20, 1), (21, 4), (25, 1), (26, 1), (27, 1), (28, 1), (29, 1), (30, 1), (31, 1), (32, 1), (33, 1), (34, 1), (35, 1), (36, 1)] := Places.of Tryz.underlying89 (by kernel_rfl)
theorem ni_89 : ∃ d, Tryz.prog.underlying 89 = some d ∧ ∀ k, d ≠ .int k := notInt_of Tryz.underlying89 rfl
theorem sc_90 : Scalar Tryz.prog 90 := Scalar.of Tryz.underlying90 rfl
theorem ti_90 : TyInfo Tryz.prog 90 1 8 [.nilFunc] := TyInfo.of (by kernel_rfl)
theorem ts_90 : TySize Tryz.prog 90 1 := ti_90.size
theorem ni_90 : ∃ d, Tryz.prog.underlying 90 = some d ∧ ∀ k, d ≠ .int k := notInt_of Tryz.underlying90 rfl
theorem sc_91 : Scalar Tryz.prog 91 := Scalar.of Tryz.underlying91 rfl
theorem ti_91 : TyInfo Tryz.prog 91 1 8 [.nilFunc] := TyInfo.of (by kernel_rfl)
theorem ts_91 : TySize Tryz.prog 91 1 := ti_91.size
theorem ni_91 : ∃ d, Tryz.prog.underlying 91 = some d ∧ ∀ k, d ≠ .int k := notInt_of Tryz.underlying91 rfl
theorem sc_92 : Scalar Tryz.prog 92 := Scalar.of Tryz.underlying92 rfl
theorem ti_92 : TyInfo Tryz.prog 92 1 8 [.int .u64 0] := TyInfo.of (by kernel_rfl)
theorem ts_92 : TySize Tryz.prog 92 1 := ti_92.size
theorem ag_93 : IsAgg Tryz.prog 93 := IsAgg.of Tryz.underlying93 rfl
theorem ti_93 : TyInfo Tryz.prog 93 4 40 [.pointer none, .pointer none, .pointer none, strV []] := TyInfo.of (by kernel_rfl)
theorem ts_93 : TySize Tryz.prog 93 4 := ti_93.size
theorem fa_93_0 : FieldAt Tryz.prog 93 0 0 17 := FieldAt.of (by kernel_rfl)
theorem fa_93_1 : FieldAt Tryz.prog 93 1 1 17 := FieldAt.of (by kernel_rfl)
theorem fa_93_2 : FieldAt Tryz.prog 93 2 2 17 := FieldAt.of (by kernel_rfl)
theorem fa_93_3 : FieldAt Tryz.prog 93 3 3 9 := FieldAt.of (by kernel_rfl)
theorem pl_93 : Places Tryz.prog 93 [(0, 1), (1, 1), (2, 1), (3, 1)] := Places.of Tryz.underlying93 (by kernel_rfl)
theorem ni_93 : ∃ d, Tryz.prog.underlying 93 = some d ∧ ∀ k, d ≠ .int k := notInt_of Tryz.underlying93 rfl
theorem ag_94 : IsAgg Tryz.prog 94 := IsAgg.of Tryz.underlying94 rfl
theorem ti_94 : TyInfo Tryz.prog 94 4 40 [.pointer none, .pointer none, .pointer none, strV []] := TyInfo.of (by kernel_rfl)
theorem ts_94 : TySize Tryz.prog 94 4 := ti_94.size
theorem fa_94_0 : FieldAt Tryz.prog 94 0 0 17 := FieldAt.of (by kernel_rfl)
theorem fa_94_1 : FieldAt Tryz.prog 94 1 1 17 := FieldAt.of (by kernel_rfl)
theorem fa_94_2 : FieldAt Tryz.prog 94 2 2 17 := FieldAt.of (by kernel_rfl)
theorem fa_94_3 : FieldAt Tryz.prog 94 3 3 9 := FieldAt.of (by kernel_rfl)
theorem pl_94 : Places Tryz.prog 94 [(0, 1), (1, 1), (2, 1), (3, 1)] := Places.of Tryz.underlying94 (by kernel_rfl)
theorem ni_94 : ∃ d, Tryz.prog.underlying 94 = some d ∧ ∀ k, d ≠ .int k := notInt_of Tryz.underlying94 rfl
theorem ag_95 : IsAgg Tryz.prog 95 := IsAgg.of Tryz.underlying95 rfl
theorem ti_95 : TyInfo Tryz.prog 95 0 0 [] := TyInfo.of (by kernel_rfl)
theorem ts_95 : TySize Tryz.prog 95 0 := ti_95.size
theorem ni_95 : ∃ d, Tryz.prog.underlying 95 = some d ∧ ∀ k, d ≠ .int k := notInt_of Tryz.underlying95 rfl
theorem ag_96 : IsAgg Tryz.prog 96 := IsAgg.of Tryz.underlying96 rfl
theorem ti_96 : TyInfo Tryz.prog 96 0 0 [] := TyInfo.of (by kernel_rfl)
theorem ts_96 : TySize Tryz.prog 96 0 := ti_96.size
theorem pl_96 : Places Tryz.prog 96 [(0, 0)] := Places.of Tryz.underlying96 (by kernel_rfl)
theorem ni_96 : ∃ d, Tryz.prog.underlying 96 = some d ∧ ∀ k, d ≠ .int k := notInt_of Tryz.underlying96 rfl
theorem ag_97 : IsAgg Tryz.prog 97 := IsAgg.of Tryz.underlying97 rfl
theorem ti_97 : TyInfo Tryz.prog 97 0 0 [] := TyInfo.of (by kernel_rfl)
theorem ts_97 : TySize Tryz.prog 97 0 := ti_97.size
theorem pl_97 : Places Tryz.prog 97 [(0, 0)] := Places.of Tryz.underlying97 (by kernel_rfl)
theorem ni_97 : ∃ d, Tryz.prog.underlying 97 = some d ∧ ∀ k, d ≠ .int k := notInt_of Tryz.underlying97 rfl
theorem sc_98 : Scalar Tryz.prog 98 := Scalar.of Tryz.underlying98 rfl
theorem ti_98 : TyInfo Tryz.prog 98 1 1 [.int .u8 0] := TyInfo.of (by kernel_rfl)
theorem ts_98 : TySize Tryz.prog 98 1 := ti_98.size
theorem sc_99 : Scalar Tryz.prog 99 := Scalar.of Tryz.underlying99 rfl
theorem ti_99 : TyInfo Tryz.prog 99 1 1 [.int .u8 0] := TyInfo.of (by kernel_rfl)
theorem ts_99 : TySize Tryz.prog 99 1 := ti_99.size
theorem sc_100 : Scalar Tryz.prog 100 := Scalar.of Tryz.underlying100 rfl
theorem ti_100 : TyInfo Tryz.prog 100 1 8 [.nilFunc] := TyInfo.of (by kernel_rfl)
theorem ts_100 : TySize Tryz.prog 100 1 := ti_100.size
theorem ni_100 : ∃ d, Tryz.prog.underlying 100 = some d ∧ ∀ k, d ≠ .int k := notInt_of Tryz.underlying100 rfl
theorem sc_101 : Scalar Tryz.prog 101 := Scalar.of Tryz.underlying101 rfl
theorem ti_101 : TyInfo Tryz.prog 101 1 8 [.pointer none] := TyInfo.of (by kernel_rfl)
theorem ts_101 : TySize Tryz.prog 101 1 := ti_101.size
theorem ni_101 : ∃ d, Tryz.prog.underlying 101 = some d ∧ ∀ k, d ≠ .int k := notInt_of Tryz.underlying101 rfl
theorem sc_102 : Scalar Tryz.prog 102 := Scalar.of Tryz.underlying102 rfl
theorem ti_102 : TyInfo Tryz.prog 102 1 4 [.int .i32 0] := TyInfo.of (by kernel_rfl)
theorem ts_102 : TySize Tryz.prog 102 1 := ti_102.size
theorem sc_103 : Scalar Tryz.prog 103 := Scalar.of Tryz.underlying103 rfl
theorem ti_103 : TyInfo Tryz.prog 103 1 4 [.int .i32 0] := TyInfo.of (by kernel_rfl)
theorem ts_103 : TySize Tryz.prog 103 1 := ti_103.size
theorem ag_104 : IsAgg Tryz.prog 104 := IsAgg.of Tryz.underlying104 rfl
theorem ti_104 : TyInfo Tryz.prog 104 11 48 [.int .u64 0, .int .u64 0, .int .u32 0, .int .u8 0, .int .u8 0, .int .u8 0, .int .u8 0, .nilFunc, .pointer none, .int .i32 0, .int .i32 0] := TyInfo.of (by kernel_rfl)
theorem ts_104 : TySize Tryz.prog 104 11 := ti_104.size
theorem fa_104_0 : FieldAt Tryz.prog 104 0 0 12 := FieldAt.of (by kernel_rfl)
theorem fa_104_1 : FieldAt Tryz.prog 104 1 1 12 := FieldAt.of (by kernel_rfl)
theorem fa_104_2 : FieldAt Tryz.prog 104 2 2 76 := FieldAt.of (by kernel_rfl)
theorem fa_104_3 : FieldAt Tryz.prog 104 3 3 98 := FieldAt.of (by kernel_rfl)
theorem fa_104_4 : FieldAt Tryz.prog 104 4 4 5 := FieldAt.of (by kernel_rfl)
theorem fa_104_5 : FieldAt Tryz.prog 104 5 5 5 := FieldAt.of (by kernel_rfl)
theorem fa_104_6 : FieldAt Tryz.prog 104 6 6 99 := FieldAt.of (by kernel_rfl)
theorem fa_104_7 : FieldAt Tryz.prog 104 7 7 100 := FieldAt.of (by kernel_rfl)
theorem fa_104_8 : FieldAt Tryz.prog 104 8 8 101 := FieldAt.of (by kernel_rfl)
theorem fa_104_9 : FieldAt Tryz.prog 104 9 9 102 := FieldAt.of (by kernel_rfl)
theorem fa_104_10 : FieldAt Tryz.prog 104 10 10 103 := FieldAt.of (by kernel_rfl)
theorem pl_104 : Places Tryz.prog 104 [(0, 1), (1, 1), (2, 1), (3, 1), (4, 1), (5, 1), (6, 1), (7, 1), (8, 1), (9, 1), (10, 1)] := Places.of Tryz.underlying104 (by kernel_rfl)
theorem ni_104 : ∃ d, Tryz.prog.underlying 104 = some d ∧ ∀ k, d ≠ .int k := notInt_of Tryz.underlying104 rfl
theorem ag_105 : IsAgg Tryz.prog 105 := IsAgg.of Tryz.underlying105 rfl
theorem ti_105 : TyInfo Tryz.prog 105 11 48 [.int .u64 0, .int .u64 0, .int .u32 0, .int .u8 0, .int .u8 0, .int .u8 0, .int .u8 0, .nilFunc, .pointer none, .int .i32 0, .int .i32 0] := TyInfo.of (by kernel_rfl)
theorem ts_105 : TySize Tryz.prog 105 11 := ti_105.size
theorem fa_105_0 : FieldAt Tryz.prog 105 0 0 12 := FieldAt.of (by kernel_rfl)
theorem fa_105_1 : FieldAt Tryz.prog 105 1 1 12 := FieldAt.of (by kernel_rfl)
theorem fa_105_2 : FieldAt Tryz.prog 105 2 2 76 := FieldAt.of (by kernel_rfl)
theorem fa_105_3 : FieldAt Tryz.prog 105 3 3 98 := FieldAt.of (by kernel_rfl)
theorem fa_105_4 : FieldAt Tryz.prog 105 4 4 5 := FieldAt.of (by kernel_rfl)
theorem fa_105_5 : FieldAt Tryz.prog 105 5 5 5 := FieldAt.of (by kernel_rfl)
theorem fa_105_6 : FieldAt Tryz.prog 105 6 6 99 := FieldAt.of (by kernel_rfl)
theorem fa_105_7 : FieldAt Tryz.prog 105 7 7 100 := FieldAt.of (by kernel_rfl)
theorem fa_105_8 : FieldAt Tryz.prog 105 8 8 101 := FieldAt.of (by kernel_rfl)
theorem fa_105_9 : FieldAt Tryz.prog 105 9 9 102 := FieldAt.of (by kernel_rfl)
theorem fa_105_10 : FieldAt Tryz.prog 105 10 10 103 := FieldAt.of (by kernel_rfl)
theorem pl_105 : Places Tryz.prog 105 [(0, 1), (1, 1), (2, 1), (3, 1), (4, 1), (5, 1), (6, 1), (7, 1), (8, 1), (9, 1), (10, 1)] := Places.of Tryz.underlying105 (by kernel_rfl)
theorem ni_105 : ∃ d, Tryz.prog.underlying 105 = some d ∧ ∀ k, d ≠ .int k := notInt_of Tryz.underlying105 rfl
theorem sc_106 : Scalar Tryz.prog 106 := Scalar.of Tryz.underlying106 rfl
theorem ti_106 : TyInfo Tryz.prog 106 1 8 [.nilFunc] := TyInfo.of (by kernel_rfl)
theorem ts_106 : TySize Tryz.prog 106 1 := ti_106.size
theorem ni_106 : ∃ d, Tryz.prog.underlying 106 = some d ∧ ∀ k, d ≠ .int k := notInt_of Tryz.underlying106 rfl
theorem sc_107 : Scalar Tryz.prog 107 := Scalar.of Tryz.underlying107 rfl
theorem ti_107 : TyInfo Tryz.prog 107 1 8 [.nilFunc] := TyInfo.of (by kernel_rfl)
theorem ts_107 : TySize Tryz.prog 107 1 := ti_107.size
theorem ni_107 : ∃ d, Tryz.prog.underlying 107 = some d ∧ ∀ k, d ≠ .int k := notInt_of Tryz.underlying107 rfl
theorem sc_108 : Scalar Tryz.prog 108 := Scalar.of Tryz.underlying108 rfl
theorem ti_108 : TyInfo Tryz.prog 108 1 8 [.nilFunc] := TyInfo.of (by kernel_rfl)
theorem ts_108 : TySize Tryz.prog 108 1 := ti_108.size
theorem ni_108 : ∃ d, Tryz.prog.underlying 108 = some d ∧ ∀ k, d ≠ .int k := notInt_of Tryz.underlying108 rfl
theorem ag_109 : IsAgg Tryz.prog 109 := IsAgg.of Tryz.underlying109 rfl
theorem ti_109 : TyInfo Tryz.prog 109 32 32 [.int .u8 0, .int .u8 0, .int .u8 0, .int .u8 0, .int .u8 0, .int .u8 0, .int .u8 0, .int .u8 0, .int .u8 0, .int .u8 0, .int .u8 0, .int .u8 0, .int .u8 0, .int .u8 0, .int .u8 0, .int .u8 0, .int .u8 0, .int .u8 0, .int .u8 0, .int .u8 0, .int .u8 0, .int .u8 0, .int .u8 0, .int .u8 0, .int .u8 0, .int .u8 0, .int .u8 0, .int .u8 0, .int .u8 0, .int .u8 0, .int .u8 0, .int .u8 0] := TyInfo.of (by kernel_rfl)
theorem ts_109 : TySize Tryz.prog 109 32 := ti_109.size
theorem ni_109 : ∃ d, Tryz.prog.underlying 109 = some d ∧ ∀ k, d ≠ .int k := notInt_of Tryz.underlying109 rfl
theorem sc_111 : Scalar Tryz.prog 111 := Scalar.of Tryz.underlying111 rfl
theorem ti_111 : TyInfo Tryz.prog 111 1 8 [.nilFunc] := TyInfo.of (by kernel_rfl)
theorem ts_111 : TySize Tryz.prog 111 1 := ti_111.size
theorem ni_111 : ∃ d, Tryz.prog.underlying 111 = some d ∧ ∀ k, d ≠ .int k := notInt_of Tryz.underlying111 rfl
theorem sc_112 : Scalar Tryz.prog 112 := Scalar.of Tryz.underlying112 rfl
theorem ti_112 : TyInfo Tryz.prog 112 1 8 [.nilFunc] := TyInfo.of (by kernel_rfl)
theorem ts_112 : TySize Tryz.prog 112 1 := ti_112.size
theorem ni_112 : ∃ d, Tryz.prog.underlying 112 = some d ∧ ∀ k, d ≠ .int k := notInt_of Tryz.underlying112 rfl
theorem sc_113 : Scalar Tryz.prog 113 := Scalar.of Tryz.underlying113 rfl
theorem ti_113 : TyInfo Tryz.prog 113 1 8 [.nilFunc] := TyInfo.of (by kernel_rfl)
theorem ts_113 : TySize Tryz.prog 113 1 := ti_113.size
theorem ni_113 : ∃ d, Tryz.prog.underlying 113 = some d ∧ ∀ k, d ≠ .int k := notInt_of Tryz.underlying113 rfl
theorem ag_114 : IsAgg Tryz.prog 114 := IsAgg.of Tryz.underlying114 rfl
theorem ti_114 : TyInfo Tryz.prog 114 3 24 [.int .i64 0, .int .i64 0, .int .i64 0] := TyInfo.of (by kernel_rfl)
theorem ts_114 : TySize Tryz.prog 114 3 := ti_114.size
theorem fa_114_0 : FieldAt Tryz.prog 114 0 0 3 := FieldAt.of (by kernel_rfl)
theorem fa_114_1 : FieldAt Tryz.prog 114 1 1 3 := FieldAt.of (by kernel_rfl)
theorem fa_114_2 : FieldAt Tryz.prog 114 2 2 3 := FieldAt.of (by kernel_rfl)
theorem pl_114 : Places Tryz.prog 114 [(0, 1), (1, 1), (2, 1)] := Places.of Tryz.underlying114 (by kernel_rfl)
theorem ni_114 : ∃ d, Tryz.prog.underlying 114 = some d ∧ ∀ k, d ≠ .int k := notInt_of Tryz.underlying114 rfl
theorem ag_115 : IsAgg Tryz.prog 115 := IsAgg.of Tryz.underlying115 rfl
theorem ti_115 : TyInfo Tryz.prog 115 3 24 [.int .i64 0, .int .i64 0, .int .i64 0] := TyInfo.of (by kernel_rfl)
theorem ts_115 : TySize Tryz.prog 115 3 := ti_115.size
theorem fa_115_0 : FieldAt Tryz.prog 115 0 0 3 := FieldAt.of (by kernel_rfl)
theorem fa_115_1 : FieldAt Tryz.prog 115 1 1 3 := FieldAt.of (by kernel_rfl)
theorem fa_115_2 : FieldAt Tryz.prog 115 2 2 3 := FieldAt.of (by kernel_rfl)
theorem pl_115 : Places Tryz.prog 115 [(0, 1), (1, 1), (2, 1)] := Places.of Tryz.underlying115 (by kernel_rfl)
theorem ni_115 : ∃ d, Tryz.prog.underlying 115 = some d ∧ ∀ k, d ≠ .int k := notInt_of Tryz.underlying115 rfl
theorem sc_116 : Scalar Tryz.prog 116 := Scalar.of Tryz.underlying116 rfl
theorem ti_116 : TyInfo Tryz.prog 116 1 24 [.slice none 0 0] := TyInfo.of (by kernel_rfl)
theorem ts_116 : TySize Tryz.prog 116 1 := ti_116.size
theorem ni_116 : ∃ d, Tryz.prog.underlying 116 = some d ∧ ∀ k, d ≠ .int k := notInt_of Tryz.underlying116 rfl
theorem sc_117 : Scalar Tryz.prog 117 := Scalar.of Tryz.underlying117 rfl
theorem ti_117 : TyInfo Tryz.prog 117 1 8 [.nilFunc] := TyInfo.of (by kernel_rfl)
theorem ts_117 : TySize Tryz.prog 117 1 := ti_117.size
theorem ni_117 : ∃ d, Tryz.prog.underlying 117 = some d ∧ ∀ k, d ≠ .int k := notInt_of Tryz.underlying117 rfl
theorem sc_118 : Scalar Tryz.prog 118 := Scalar.of Tryz.underlying118 rfl
theorem ti_118 : TyInfo Tryz.prog 118 1 8 [.nilFunc] := TyInfo.of (by kernel_rfl)
theorem ts_118 : TySize Tryz.prog 118 1 := ti_118.size
theorem ni_118 : ∃ d, Tryz.prog.underlying 118 = some d ∧ ∀ k, d ≠ .int k := notInt_of Tryz.underlying118 rfl
theorem sc_119 : Scalar Tryz.prog 119 := Scalar.of Tryz.underlying119 rfl
theorem ti_119 : TyInfo Tryz.prog 119 1 8 [.nilFunc] := TyInfo.of (by kernel_rfl)
theorem ts_119 : TySize Tryz.prog 119 1 := ti_119.size
theorem ni_119 : ∃ d, Tryz.prog.underlying 119 = some d ∧ ∀ k, d ≠ .int k := notInt_of Tryz.underlying119 rfl
theorem sc_120 : Scalar Tryz.prog 120 := Scalar.of Tryz.underlying120 rfl
theorem ti_120 : TyInfo Tryz.prog 120 1 8 [.nilFunc] := TyInfo.of (by kernel_rfl)
theorem ts_120 : TySize Tryz.prog 120 1 := ti_120.size
theorem ni_120 : ∃ d, Tryz.prog.underlying 120 = some d ∧ ∀ k, d ≠ .int k := notInt_of Tryz.underlying120 rfl
theorem sc_121 : Scalar Tryz.prog 121 := Scalar.of Tryz.underlying121 rfl
theorem ti_121 : TyInfo Tryz.prog 121 1 8 [.nilFunc] := TyInfo.of (by kernel_rfl)
theorem ts_121 : TySize Tryz.prog 121 1 := ti_121.size
theorem ni_121 : ∃ d, Tryz.prog.underlying 121 = some d ∧ ∀ k, d ≠ .int k := notInt_of Tryz.underlying121 rfl
theorem sc_122 : Scalar Tryz.prog 122 := Scalar.of Tryz.underlying122 rfl
theorem ti_122 : TyInfo Tryz.prog 122 1 8 [.nilFunc] := TyInfo.of (by kernel_rfl)
theorem ts_122 : TySize Tryz.prog 122 1 := ti_122.size
theorem ni_122 : ∃ d, Tryz.prog.underlying 122 = some d ∧ ∀ k, d ≠ .int k := notInt_of Tryz.underlying122 rfl
theorem ag_123 : IsAgg Tryz.prog 123 := IsAgg.of Tryz.underlying123 rfl
theorem ti_123 : TyInfo Tryz.prog 123 39 64 [.int .i64 0, .int .u32 0, .int .u32 0, .int .u32 0, .int .u32 0, .int .u32 0, .int .u32 0, .int .u8 0, .int .u8 0, .int .u8 0, .int .u8 0, .int .u8 0, .int .u8 0, .int .u8 0, .int .u8 0, .int .u8 0, .int .u8 0, .int .u8 0, .int .u8 0, .int .u8 0, .int .u8 0, .int .u8 0, .int .u8 0, .int .u8 0, .int .u8 0, .int .u8 0, .int .u8 0, .int .u8 0, .int .u8 0, .int .u8 0, .int .u8 0, .int .u8 0, .int .u8 0, .int .u8 0, .int .u8 0, .int .u8 0, .int .u8 0, .int .u8 0, .int .u8 0] := TyInfo.of (by kernel_rfl)
theorem ts_123 : TySize Tryz.prog 123 39 := ti_123.size
theorem fa_123_0 : FieldAt Tryz.prog 123 0 0 3 := FieldAt.of (by kernel_rfl)
theorem fa_123_1 : FieldAt Tryz.prog 123 1 1 76 := FieldAt.of (by kernel_rfl)
theorem fa_123_2 : FieldAt Tryz.prog 123 2 2 76 := FieldAt.of (by kernel_rfl)
theorem fa_123_3 : FieldAt Tryz.prog 123 3 3 76 := FieldAt.of (by kernel_rfl)
theorem fa_123_4 : FieldAt Tryz.prog 123 4 4 76 := FieldAt.of (by kernel_rfl)
theorem fa_123_5 : FieldAt Tryz.prog 123 5 5 76 := FieldAt.of (by kernel_rfl)
theorem fa_123_6 : FieldAt Tryz.prog 123 6 6 76 := FieldAt.of (by kernel_rfl)
theorem fa_123_7 : FieldAt Tryz.prog 123 7 7 109 := FieldAt.of (by kernel_rfl)
theorem pl_123 : Places Tryz.prog 123 [(0, 1), (1, 1), (2, 1), (3, 1), (4, 1), (5, 1), (6, 1), (7, 32)] := Places.of Tryz.underlying123 (by kernel_rfl)
theorem ni_123 : ∃ d, Tryz.prog.underlying 123 = some d ∧ ∀ k, d ≠ .int k := notInt_of Tryz.underlying123 rfl
theorem ag_124 : IsAgg Tryz.prog 124 := IsAgg.of Tryz.underlying124 rfl
theorem ti_124 : TyInfo Tryz.prog 124 39 64 [.int .i64 0, .int .u32 0, .int .u32 0, .int .u32 0, .int .u32 0, .int .u32 0, .int .u32 0, .int .u8 0, .int .u8 0, .int .u8 0, .int .u8 0, .int .u8 0, .int .u8 0, .int .u8 0, .int .u8 0, .int .u8 0, .int .u8 0, .int .u8 0, .int .u8 0, .int .u8 0, .int .u8 0, .int .u8 0, .int .u8 0, .int .u8 0, .int .u8 0, .int .u8 0, .int .u8 0, .int .u8 0, .int .u8 0, .int .u8 0, .int .u8 0, .int .u8 0, .int .u8 0, .int .u8 0, .int .u8 0, .int .u8 0, .int .u8 0, .int .u8 0, .int .u8 0] := TyInfo.of (by kernel_rfl)
theorem ts_124 : TySize Tryz.prog 124 39 := ti_124.size
theorem fa_124_0 : FieldAt Tryz.prog 124 0 0 3 := FieldAt.of (by kernel_rfl)
theorem fa_124_1 : FieldAt Tryz.prog 124 1 1 76 := FieldAt.of (by kernel_rfl)
theorem fa_124_2 : FieldAt Tryz.prog 124 2 2 76 := FieldAt.of (by kernel_rfl)
theorem fa_124_3 : FieldAt Tryz.prog 124 3 3 76 := FieldAt.of (by kernel_rfl)
theorem fa_124_4 : FieldAt Tryz.prog 124 4 4 76 := FieldAt.of (by kernel_rfl)
theorem fa_124_5 : FieldAt Tryz.prog 124 5 5 76 := FieldAt.of (by kernel_rfl)
theorem fa_124_6 : FieldAt Tryz.prog 124 6 6 76 := FieldAt.of (by kernel_rfl)
theorem fa_124_7 : FieldAt Tryz.prog 124 7 7 109 := FieldAt.of (by kernel_rfl)
theorem pl_124 : Places Tryz.prog 124 [(0, 1), (1, 1), (2, 1), (3, 1), (4, 1), (5, 1), (6, 1), (7, 32)] := Places.of Tryz.underlying124 (by kernel_rfl)
theorem ni_124 : ∃ d, Tryz.prog.underlying 124 = some d ∧ ∀ k, d ≠ .int k := notInt_of Tryz.underlying124 rfl
theorem sc_126 : Scalar Tryz.prog 126 := Scalar.of Tryz.underlying126 rfl
theorem ti_126 : TyInfo Tryz.prog 126 1 8 [.nilFunc] := TyInfo.of (by kernel_rfl)
theorem ts_126 : TySize Tryz.prog 126 1 := ti_126.size
theorem ni_126 : ∃ d, Tryz.prog.underlying 126 = some d ∧ ∀ k, d ≠ .int k := notInt_of Tryz.underlying126 rfl
theorem sc_127 : Scalar Tryz.prog 127 := Scalar.of Tryz.underlying127 rfl
theorem ti_127 : TyInfo Tryz.prog 127 1 8 [.nilFunc] := TyInfo.of (by kernel_rfl)
theorem ts_127 : TySize Tryz.prog 127 1 := ti_127.size
theorem ni_127 : ∃ d, Tryz.prog.underlying 127 = some d ∧ ∀ k, d ≠ .int k := notInt_of Tryz.underlying127 rfl
theorem sc_129 : Scalar Tryz.prog 129 := Scalar.of Tryz.underlying129 rfl
theorem ti_129 : TyInfo Tryz.prog 129 1 8 [.nilFunc] := TyInfo.of (by kernel_rfl)
theorem ts_129 : TySize Tryz.prog 129 1 := ti_129.size
theorem ni_129 : ∃ d, Tryz.prog.underlying 129 = some d ∧ ∀ k, d ≠ .int k := notInt_of Tryz.underlying129 rfl
theorem sc_130 : Scalar Tryz.prog 130 := Scalar.of Tryz.underlying130 rfl
theorem ti_130 : TyInfo Tryz.prog 130 1 24 [.slice none 0 0] := TyInfo.of (by kernel_rfl)
theorem ts_130 : TySize Tryz.prog 130 1 := ti_130.size
theorem ni_130 : ∃ d, Tryz.prog.underlying 130 = some d ∧ ∀ k, d ≠ .int k := notInt_of Tryz.underlying130 rfl
theorem sc_131 : Scalar Tryz.prog 131 := Scalar.of Tryz.underlying131 rfl
theorem ti_131 : TyInfo Tryz.prog 131 1 8 [.nilFunc] := TyInfo.of (by kernel_rfl)
theorem ts_131 : TySize Tryz.prog 131 1 := ti_131.size
theorem ni_131 : ∃ d, Tryz.prog.underlying 131 = some d ∧ ∀ k, d ≠ .int k := notInt_of Tryz.underlying131 rfl
theorem sc_132 : Scalar Tryz.prog 132 := Scalar.of Tryz.underlying132 rfl
theorem ti_132 : TyInfo Tryz.prog 132 1 8 [.nilFunc] := TyInfo.of (by kernel_rfl)
theorem ts_132 : TySize Tryz.prog 132 1 := ti_132.size
theorem ni_132 : ∃ d, Tryz.prog.underlying 132 = some d ∧ ∀ k, d ≠ .int k := notInt_of Tryz.underlying132 rfl
theorem sc_133 : Scalar Tryz.prog 133 := Scalar.of Tryz.underlying133 rfl
theorem ti_133 : TyInfo Tryz.prog 133 1 8 [.nilFunc] := TyInfo.of (by kernel_rfl)
theorem ts_133 : TySize Tryz.prog 133 1 := ti_133.size
theorem ni_133 : ∃ d, Tryz.prog.underlying 133 = some d ∧ ∀ k, d ≠ .int k := notInt_of Tryz.underlying133 rfl
theorem sc_134 : Scalar Tryz.prog 134 := Scalar.of Tryz.underlying134 rfl
theorem ti_134 : TyInfo Tryz.prog 134 1 8 [.nilFunc] := TyInfo.of (by kernel_rfl)
theorem ts_134 : TySize Tryz.prog 134 1 := ti_134.size
theorem ni_134 : ∃ d, Tryz.prog.underlying 134 = some d ∧ ∀ k, d ≠ .int k := notInt_of Tryz.underlying134 rfl
theorem sc_135 : Scalar Tryz.prog 135 := Scalar.of Tryz.underlying135 rfl
theorem ti_135 : TyInfo Tryz.prog 135 1 8 [.nilFunc] := TyInfo.of (by kernel_rfl)
theorem ts_135 : TySize Tryz.prog 135 1 := ti_135.size
theorem ni_135 : ∃ d, Tryz.prog.underlying 135 = some d ∧ ∀ k, d ≠ .int k := notInt_of Tryz.underlying135 rfl
theorem sc_136 : Scalar Tryz.prog 136 := Scalar.of Tryz.underlying136 rfl
theorem ti_136 : TyInfo Tryz.prog 136 1 24 [.slice none 0 0] := TyInfo.of (by kernel_rfl)
theorem ts_136 : TySize Tryz.prog 136 1 := ti_136.size
theorem ni_136 : ∃ d, Tryz.prog.underlying 136 = some d ∧ ∀ k, d ≠ .int k := notInt_of Tryz.underlying136 rfl
theorem sc_138 : Scalar Tryz.prog 138 := Scalar.of Tryz.underlying138 rfl
theorem ti_138 : TyInfo Tryz.prog 138 1 8 [.nilFunc] := TyInfo.of (by kernel_rfl)
theorem ts_138 : TySize Tryz.prog 138 1 := ti_138.size
theorem ni_138 : ∃ d, Tryz.prog.underlying 138 = some d ∧ ∀ k, d ≠ .int k := notInt_of Tryz.underlying138 rfl
theorem ag_139 : IsAgg Tryz.prog 139 := IsAgg.of Tryz.underlying139 rfl
theorem ti_139 : TyInfo Tryz.prog 139 4 40 [.int .i64 0, .int .u32 0, .int .u32 0, .slice none 0 0] := TyInfo.of (by kernel_rfl)
theorem ts_139 : TySize Tryz.prog 139 4 := ti_139.size
theorem fa_139_0 : FieldAt Tryz.prog 139 0 0 3 := FieldAt.of (by kernel_rfl)
theorem fa_139_1 : FieldAt Tryz.prog 139 1 1 76 := FieldAt.of (by kernel_rfl)
theorem fa_139_2 : FieldAt Tryz.prog 139 2 2 76 := FieldAt.of (by kernel_rfl)
theorem fa_139_3 : FieldAt Tryz.prog 139 3 3 48 := FieldAt.of (by kernel_rfl)
theorem pl_139 : Places Tryz.prog 139 [(0, 1), (1, 1), (2, 1), (3, 1)] := Places.of Tryz.underlying139 (by kernel_rfl)
theorem ni_139 : ∃ d, Tryz.prog.underlying 139 = some d ∧ ∀ k, d ≠ .int k := notInt_of Tryz.underlying139 rfl
theorem ag_140 : IsAgg Tryz.prog 140 := IsAgg.of Tryz.underlying140 rfl
theorem ti_140 : TyInfo Tryz.prog 140 4 40 [.int .i64 0, .int .u32 0, .int .u32 0, .slice none 0 0] := TyInfo.of (by kernel_rfl)
theorem ts_140 : TySize Tryz.prog 140 4 := ti_140.size
theorem fa_140_0 : FieldAt Tryz.prog 140 0 0 3 := FieldAt.of (by kernel_rfl)
theorem fa_140_1 : FieldAt Tryz.prog 140 1 1 76 := FieldAt.of (by kernel_rfl)
theorem fa_140_2 : FieldAt Tryz.prog 140 2 2 76 := FieldAt.of (by kernel_rfl)
theorem fa_140_3 : FieldAt Tryz.prog 140 3 3 48 := FieldAt.of (by kernel_rfl)
theorem pl_140 : Places Tryz.prog 140 [(0, 1), (1, 1), (2, 1), (3, 1)] := Places.of Tryz.underlying140 (by kernel_rfl)
theorem ni_140 : ∃ d, Tryz.prog.underlying 140 = some d ∧ ∀ k, d ≠ .int k := notInt_of Tryz.underlying140 rfl
theorem sc_141 : Scalar Tryz.prog 141 := Scalar.of Tryz.underlying141 rfl
theorem ti_141 : TyInfo Tryz.prog 141 1 8 [.nilFunc] := TyInfo.of (by kernel_rfl)
theorem ts_141 : TySize Tryz.prog 141 1 := ti_141.size
theorem ni_141 : ∃ d, Tryz.prog.underlying 141 = some d ∧ ∀ k, d ≠ .int k := notInt_of Tryz.underlying141 rfl
theorem sc_142 : Scalar Tryz.prog 142 := Scalar.of Tryz.underlying142 rfl
theorem ti_142 : TyInfo Tryz.prog 142 1 8 [.pointer none] := TyInfo.of (by kernel_rfl)
theorem ts_142 : TySize Tryz.prog 142 1 := ti_142.size
theorem ni_142 : ∃ d, Tryz.prog.underlying 142 = some d ∧ ∀ k, d ≠ .int k := notInt_of Tryz.underlying142 rfl
theorem sc_143 : Scalar Tryz.prog 143 := Scalar.of Tryz.underlying143 rfl
theorem ti_143 : TyInfo Tryz.prog 143 1 8 [.nilFunc] := TyInfo.of (by kernel_rfl)
theorem ts_143 : TySize Tryz.prog 143 1 := ti_143.size
theorem ni_143 : ∃ d, Tryz.prog.underlying 143 = some d ∧ ∀ k, d ≠ .int k := notInt_of Tryz.underlying143 rfl
theorem sc_144 : Scalar Tryz.prog 144 := Scalar.of Tryz.underlying144 rfl
theorem ti_144 : TyInfo Tryz.prog 144 1 8 [.nilFunc] := TyInfo.of (by kernel_rfl)
theorem ts_144 : TySize Tryz.prog 144 1 := ti_144.size
theorem ni_144 : ∃ d, Tryz.prog.underlying 144 = some d ∧ ∀ k, d ≠ .int k := notInt_of Tryz.underlying144 rfl
theorem sc_145 : Scalar Tryz.prog 145 := Scalar.of Tryz.underlying145 rfl
theorem ti_145 : TyInfo Tryz.prog 145 1 8 [.nilFunc] := TyInfo.of (by kernel_rfl)
theorem ts_145 : TySize Tryz.prog 145 1 := ti_145.size
theorem ni_145 : ∃ d, Tryz.prog.underlying 145 = some d ∧ ∀ k, d ≠ .int k := notInt_of Tryz.underlying145 rfl
theorem sc_146 : Scalar Tryz.prog 146 := Scalar.of Tryz.underlying146 rfl
theorem ti_146 : TyInfo Tryz.prog 146 1 8 [.nilFunc] := TyInfo.of (by kernel_rfl)
theorem ts_146 : TySize Tryz.prog 146 1 := ti_146.size
theorem ni_146 : ∃ d, Tryz.prog.underlying 146 = some d ∧ ∀ k, d ≠ .int k := notInt_of Tryz.underlying146 rfl
theorem sc_147 : Scalar Tryz.prog 147 := Scalar.of Tryz.underlying147 rfl
theorem ti_147 : TyInfo Tryz.prog 147 1 24 [.slice none 0 0] := TyInfo.of (by kernel_rfl)
theorem ts_147 : TySize Tryz.prog 147 1 := ti_147.size
theorem ni_147 : ∃ d, Tryz.prog.underlying 147 = some d ∧ ∀ k, d ≠ .int k := notInt_of Tryz.underlying147 rfl
theorem ag_148 : IsAgg Tryz.prog 148 := IsAgg.of Tryz.underlying148 rfl
theorem ti_148 : TyInfo Tryz.prog 148 3 24 [.int .i64 0, .int .i64 0, .int .i64 0] := TyInfo.of (by kernel_rfl)
theorem ts_148 : TySize Tryz.prog 148 3 := ti_148.size
theorem fa_148_0 : FieldAt Tryz.prog 148 0 0 3 := FieldAt.of (by kernel_rfl)
theorem fa_148_1 : FieldAt Tryz.prog 148 1 1 3 := FieldAt.of (by kernel_rfl)
theorem fa_148_2 : FieldAt Tryz.prog 148 2 2 3 := FieldAt.of (by kernel_rfl)
theorem pl_148 : Places Tryz.prog 148 [(0, 1), (1, 1), (2, 1)] := Places.of Tryz.underlying148 (by kernel_rfl)
theorem ni_148 : ∃ d, Tryz.prog.underlying 148 = some d ∧ ∀ k, d ≠ .int k := notInt_of Tryz.underlying148 rfl
theorem ag_149 : IsAgg Tryz.prog 149 := IsAgg.of Tryz.underlying149 rfl
theorem ti_149 : TyInfo Tryz.prog 149 3 24 [.int .i64 0, .int .i64 0, .int .i64 0] := TyInfo.of (by kernel_rfl)
theorem ts_149 : TySize Tryz.prog 149 3 := ti_149.size
theorem fa_149_0 : FieldAt Tryz.prog 149 0 0 3 := FieldAt.of (by kernel_rfl)
theorem fa_149_1 : FieldAt Tryz.prog 149 1 1 3 := FieldAt.of (by kernel_rfl)
theorem fa_149_2 : FieldAt Tryz.prog 149 2 2 3 := FieldAt.of (by kernel_rfl)
theorem pl_149 : Places Tryz.prog 149 [(0, 1), (1, 1), (2, 1)] := Places.of Tryz.underlying149 (by kernel_rfl)
theorem ni_149 : ∃ d, Tryz.prog.underlying 149 = some d ∧ ∀ k, d ≠ .int k := notInt_of Tryz.underlying149 rfl
theorem ag_150 : IsAgg Tryz.prog 150 := IsAgg.of Tryz.underlying150 rfl
theorem ti_150 : TyInfo Tryz.prog 150 9 104 [.int .i64 0, .slice none 0 0, .slice none 0 0, .bool false, .int .i64 0, .int .i64 0, .int .i64 0, .int .i64 0, .int .i64 0] := TyInfo.of (by kernel_rfl)
theorem ts_150 : TySize Tryz.prog 150 9 := ti_150.size
theorem fa_150_0 : FieldAt Tryz.prog 150 0 0 3 := FieldAt.of (by kernel_rfl)
theorem fa_150_1 : FieldAt Tryz.prog 150 1 1 48 := FieldAt.of (by kernel_rfl)
theorem fa_150_2 : FieldAt Tryz.prog 150 2 2 147 := FieldAt.of (by kernel_rfl)
theorem fa_150_3 : FieldAt Tryz.prog 150 3 3 4 := FieldAt.of (by kernel_rfl)
theorem fa_150_4 : FieldAt Tryz.prog 150 4 4 3 := FieldAt.of (by kernel_rfl)
theorem fa_150_5 : FieldAt Tryz.prog 150 5 5 3 := FieldAt.of (by kernel_rfl)
theorem fa_150_6 : FieldAt Tryz.prog 150 6 6 149 := FieldAt.of (by kernel_rfl)
theorem pl_150 : Places Tryz.prog 150 [(0, 1), (1, 1), (2, 1), (3, 1), (4, 1), (5, 1), (6, 3)] := Places.of Tryz.underlying150 (by kernel_rfl)
theorem ni_150 : ∃ d, Tryz.prog.underlying 150 = some d ∧ ∀ k, d ≠ .int k := notInt_of Tryz.underlying150 rfl
theorem ag_151 : IsAgg Tryz.prog 151 := IsAgg.of Tryz.underlying151 rfl
theorem ti_151 : TyInfo Tryz.prog 151 9 104 [.int .i64 0, .slice none 0 0, .slice none 0 0, .bool false, .int .i64 0, .int .i64 0, .int .i64 0, .int .i64 0, .int .i64 0] := TyInfo.of (by kernel_rfl)
theorem ts_151 : TySize Tryz.prog 151 9 := ti_151.size
theorem fa_151_0 : FieldAt Tryz.prog 151 0 0 3 := FieldAt.of (by kernel_rfl)
theorem fa_151_1 : FieldAt Tryz.prog 151 1 1 48 := FieldAt.of (by kernel_rfl)
theorem fa_151_2 : FieldAt Tryz.prog 151 2 2 147 := FieldAt.of (by kernel_rfl)
theorem fa_151_3 : FieldAt Tryz.prog 151 3 3 4 := FieldAt.of (by kernel_rfl)
theorem fa_151_4 : FieldAt Tryz.prog 151 4 4 3 := FieldAt.of (by kernel_rfl)
theorem fa_151_5 : FieldAt Tryz.prog 151 5 5 3 := FieldAt.of (by kernel_rfl)
theorem fa_151_6 : FieldAt Tryz.prog 151 6 6 149 := FieldAt.of (by kernel_rfl)
theorem pl_151 : Places Tryz.prog 151 [(0, 1), (1, 1), (2, 1), (3, 1), (4, 1), (5, 1), (6, 3)] := Places.of Tryz.underlying151 (by kernel_rfl)
theorem ni_151 : ∃ d, Tryz.prog.underlying 151 = some d ∧ ∀ k, d ≠ .int k := notInt_of Tryz.underlying151 rfl
theorem sc_152 : Scalar Tryz.prog 152 := Scalar.of Tryz.underlying152 rfl
theorem ti_152 : TyInfo Tryz.prog 152 1 8 [.nilFunc] := TyInfo.of (by kernel_rfl)
theorem ts_152 : TySize Tryz.prog 152 1 := ti_152.size
theorem ni_152 : ∃ d, Tryz.prog.underlying 152 = some d ∧ ∀ k, d ≠ .int k := notInt_of Tryz.underlying152 rfl
theorem sc_153 : Scalar Tryz.prog 153 := Scalar.of Tryz.underlying153 rfl
theorem ti_153 : TyInfo Tryz.prog 153 1 8 [.nilFunc] := TyInfo.of (by kernel_rfl)
theorem ts_153 : TySize Tryz.prog 153 1 := ti_153.size
theorem ni_153 : ∃ d, Tryz.prog.underlying 153 = some d ∧ ∀ k, d ≠ .int k := notInt_of Tryz.underlying153 rfl
theorem sc_154 : Scalar Tryz.prog 154 := Scalar.of Tryz.underlying154 rfl
theorem ti_154 : TyInfo Tryz.prog 154 1 8 [.nilFunc] := TyInfo.of (by kernel_rfl)
theorem ts_154 : TySize Tryz.prog 154 1 := ti_154.size
theorem ni_154 : ∃ d, Tryz.prog.underlying 154 = some d ∧ ∀ k, d ≠ .int k := notInt_of Tryz.underlying154 rfl
theorem sc_155 : Scalar Tryz.prog 155 := Scalar.of Tryz.underlying155 rfl
theorem ti_155 : TyInfo Tryz.prog 155 1 8 [.pointer none] := TyInfo.of (by kernel_rfl)
theorem ts_155 : TySize Tryz.prog 155 1 := ti_155.size
theorem ni_155 : ∃ d, Tryz.prog.underlying 155 = some d ∧ ∀ k, d ≠ .int k := notInt_of Tryz.underlying155 rfl
theorem ag_156 : IsAgg Tryz.prog 156 := IsAgg.of Tryz.underlying156 rfl
theorem ti_156 : TyInfo Tryz.prog 156 6 48 [.pointer none, .pointer none, .pointer none, .pointer none, .pointer none, .pointer none] := TyInfo.of (by kernel_rfl)
theorem ts_156 : TySize Tryz.prog 156 6 := ti_156.size
theorem ni_156 : ∃ d, Tryz.prog.underlying 156 = some d ∧ ∀ k, d ≠ .int k := notInt_of Tryz.underlying156 rfl
theorem sc_158 : Scalar Tryz.prog 158 := Scalar.of Tryz.underlying158 rfl
theorem ti_158 : TyInfo Tryz.prog 158 1 8 [.nilFunc] := TyInfo.of (by kernel_rfl)
theorem ts_158 : TySize Tryz.prog 158 1 := ti_158.size
theorem ni_158 : ∃ d, Tryz.prog.underlying 158 = some d ∧ ∀ k, d ≠ .int k := notInt_of Tryz.underlying158 rfl
theorem ag_159 : IsAgg Tryz.prog 159 := IsAgg.of Tryz.underlying159 rfl
theorem ti_159 : TyInfo Tryz.prog 159 3 24 [.int .i64 0, .int .i64 0, .int .i64 0] := TyInfo.of (by kernel_rfl)
theorem ts_159 : TySize Tryz.prog 159 3 := ti_159.size
theorem fa_159_0 : FieldAt Tryz.prog 159 0 0 3 := FieldAt.of (by kernel_rfl)
theorem fa_159_1 : FieldAt Tryz.prog 159 1 1 3 := FieldAt.of (by kernel_rfl)
theorem fa_159_2 : FieldAt Tryz.prog 159 2 2 3 := FieldAt.of (by kernel_rfl)
theorem pl_159 : Places Tryz.prog 159 [(0, 1), (1, 1), (2, 1)] := Places.of Tryz.underlying159 (by kernel_rfl)
theorem ni_159 : ∃ d, Tryz.prog.underlying 159 = some d ∧ ∀ k, d ≠ .int k := notInt_of Tryz.underlying159 rfl
theorem sc_160 : Scalar Tryz.prog 160 := Scalar.of Tryz.underlying160 rfl
theorem ti_160 : TyInfo Tryz.prog 160 1 8 [.nilFunc] := TyInfo.of (by kernel_rfl)
theorem ts_160 : TySize Tryz.prog 160 1 := ti_160.size
theorem ni_160 : ∃ d, Tryz.prog.underlying 160 = some d ∧ ∀ k, d ≠ .int k := notInt_of Tryz.underlying160 rfl
theorem sc_161 : Scalar Tryz.prog 161 := Scalar.of Tryz.underlying161 rfl
theorem ti_161 : TyInfo Tryz.prog 161 1 8 [.nilFunc] := TyInfo.of (by kernel_rfl)
theorem ts_161 : TySize Tryz.prog 161 1 := ti_161.size
theorem ni_161 : ∃ d, Tryz.prog.underlying 161 = some d ∧ ∀ k, d ≠ .int k := notInt_of Tryz.underlying161 rfl
theorem sc_162 : Scalar Tryz.prog 162 := Scalar.of Tryz.underlying162 rfl
theorem ti_162 : TyInfo Tryz.prog 162 1 8 [.nilFunc] := TyInfo.of (by kernel_rfl)
theorem ts_162 : TySize Tryz.prog 162 1 := ti_162.size
theorem ni_162 : ∃ d, Tryz.prog.underlying 162 = some d ∧ ∀ k, d ≠ .int k := notInt_of Tryz.underlying162 rfl
theorem sc_163 : Scalar Tryz.prog 163 := Scalar.of Tryz.underlying163 rfl
theorem ti_163 : TyInfo Tryz.prog 163 1 8 [.int .u64 0] := TyInfo.of (by kernel_rfl)
theorem ts_163 : TySize Tryz.prog 163 1 := ti_163.size
theorem sc_164 : Scalar Tryz.prog 164 := Scalar.of Tryz.underlying164 rfl
theorem ti_164 : TyInfo Tryz.prog 164 1 8 [.nilFunc] := TyInfo.of (by kernel_rfl)
theorem ts_164 : TySize Tryz.prog 164 1 := ti_164.size
theorem ni_164 : ∃ d, Tryz.prog.underlying 164 = some d ∧ ∀ k, d ≠ .int k := notInt_of Tryz.underlying164 rfl
theorem sc_165 : Scalar Tryz.prog 165 := Scalar.of Tryz.underlying165 rfl
theorem ti_165 : TyInfo Tryz.prog 165 1 8 [.nilFunc] := TyInfo.of (by kernel_rfl)
theorem ts_165 : TySize Tryz.prog 165 1 := ti_165.size
theorem ni_165 : ∃ d, Tryz.prog.underlying 165 = some d ∧ ∀ k, d ≠ .int k := notInt_of Tryz.underlying165 rfl
theorem sc_166 : Scalar Tryz.prog 166 := Scalar.of Tryz.underlying166 rfl
theorem ti_166 : TyInfo Tryz.prog 166 1 8 [.nilFunc] := TyInfo.of (by kernel_rfl)
theorem ts_166 : TySize Tryz.prog 166 1 := ti_166.size
theorem ni_166 : ∃ d, Tryz.prog.underlying 166 = some d ∧ ∀ k, d ≠ .int k := notInt_of Tryz.underlying166 rfl
theorem sc_167 : Scalar Tryz.prog 167 := Scalar.of Tryz.underlying167 rfl
theorem ti_167 : TyInfo Tryz.prog 167 1 8 [.nilFunc] := TyInfo.of (by kernel_rfl)
theorem ts_167 : TySize Tryz.prog 167 1 := ti_167.size
theorem ni_167 : ∃ d, Tryz.prog.underlying 167 = some d ∧ ∀ k, d ≠ .int k := notInt_of Tryz.underlying167 rfl
theorem sc_168 : Scalar Tryz.prog 168 := Scalar.of Tryz.underlying168 rfl
theorem ti_168 : TyInfo Tryz.prog 168 1 8 [.nilFunc] := TyInfo.of (by kernel_rfl)
theorem ts_168 : TySize Tryz.prog 168 1 := ti_168.size
theorem ni_168 : ∃ d, Tryz.prog.underlying 168 = some d ∧ ∀ k, d ≠ .int k := notInt_of Tryz.underlying168 rfl
theorem sc_169 : Scalar Tryz.prog 169 := Scalar.of Tryz.underlying169 rfl
theorem ti_169 : TyInfo Tryz.prog 169 1 8 [.nilFunc] := TyInfo.of (by kernel_rfl)
theorem ts_169 : TySize Tryz.prog 169 1 := ti_169.size
theorem ni_169 : ∃ d, Tryz.prog.underlying 169 = some d ∧ ∀ k, d ≠ .int k := notInt_of Tryz.underlying169 rfl
theorem sc_170 : Scalar Tryz.prog 170 := Scalar.of Tryz.underlying170 rfl
theorem ti_170 : TyInfo Tryz.prog 170 1 8 [.nilFunc] := TyInfo.of (by kernel_rfl)
theorem ts_170 : TySize Tryz.prog 170 1 := ti_170.size
theorem ni_170 : ∃ d, Tryz.prog.underlying 170 = some d ∧ ∀ k, d ≠ .int k := notInt_of Tryz.underlying170 rfl
theorem sc_171 : Scalar Tryz.prog 171 := Scalar.of Tryz.underlying171 rfl
theorem ti_171 : TyInfo Tryz.prog 171 1 8 [.nilFunc] := TyInfo.of (by kernel_rfl)
theorem ts_171 : TySize Tryz.prog 171 1 := ti_171.size
theorem ni_171 : ∃ d, Tryz.prog.underlying 171 = some d ∧ ∀ k, d ≠ .int k := notInt_of Tryz.underlying171 rfl
theorem sc_172 : Scalar Tryz.prog 172 := Scalar.of Tryz.underlying172 rfl
theorem ti_172 : TyInfo Tryz.prog 172 1 8 [.nilFunc] := TyInfo.of (by kernel_rfl)
theorem ts_172 : TySize Tryz.prog 172 1 := ti_172.size
theorem ni_172 : ∃ d, Tryz.prog.underlying 172 = some d ∧ ∀ k, d ≠ .int k := notInt_of Tryz.underlying172 rfl
theorem sc_173 : Scalar Tryz.prog 173 := Scalar.of Tryz.underlying173 rfl
theorem ti_173 : TyInfo Tryz.prog 173 1 8 [.nilFunc] := TyInfo.of (by kernel_rfl)
theorem ts_173 : TySize Tryz.prog 173 1 := ti_173.size
theorem ni_173 : ∃ d, Tryz.prog.underlying 173 = some d ∧ ∀ k, d ≠ .int k := notInt_of Tryz.underlying173 rfl
theorem sc_174 : Scalar Tryz.prog 174 := Scalar.of Tryz.underlying174 rfl
theorem ti_174 : TyInfo Tryz.prog 174 1 8 [.nilFunc] := TyInfo.of (by kernel_rfl)
theorem ts_174 : TySize Tryz.prog 174 1 := ti_174.size
theorem ni_174 : ∃ d, Tryz.prog.underlying 174 = some d ∧ ∀ k, d ≠ .int k := notInt_of Tryz.underlying174 rfl
theorem ag_175 : IsAgg Tryz.prog 175 := IsAgg.of Tryz.underlying175 rfl
theorem ti_175 : TyInfo Tryz.prog 175 6 24 [.int .u32 0, .int .u32 0, .int .u32 0, .int .u32 0, .int .u32 0, .int .u32 0] := TyInfo.of (by kernel_rfl)
theorem ts_175 : TySize Tryz.prog 175 6 := ti_175.size
theorem ni_175 : ∃ d, Tryz.prog.underlying 175 = some d ∧ ∀ k, d ≠ .int k := notInt_of Tryz.underlying175 rfl
theorem sc_176 : Scalar Tryz.prog 176 := Scalar.of Tryz.underlying176 rfl
theorem ti_176 : TyInfo Tryz.prog 176 1 8 [.nilFunc] := TyInfo.of (by kernel_rfl)
theorem ts_176 : TySize Tryz.prog 176 1 := ti_176.size
theorem ni_176 : ∃ d, Tryz.prog.underlying 176 = some d ∧ ∀ k, d ≠ .int k := notInt_of Tryz.underlying176 rfl
theorem sc_177 : Scalar Tryz.prog 177 := Scalar.of Tryz.underlying177 rfl
theorem ti_177 : TyInfo Tryz.prog 177 1 8 [.pointer none] := TyInfo.of (by kernel_rfl)
theorem ts_177 : TySize Tryz.prog 177 1 := ti_177.size
theorem ni_177 : ∃ d, Tryz.prog.underlying 177 = some d ∧ ∀ k, d ≠ .int k := notInt_of Tryz.underlying177 rfl
theorem ag_178 : IsAgg Tryz.prog 178 := IsAgg.of Tryz.underlying178 rfl
theorem ti_178 : TyInfo Tryz.prog 178 4 24 [.int .i64 0, .bool false, .bool false, .int .i64 0] := TyInfo.of (by kernel_rfl)
theorem ts_178 : TySize Tryz.prog 178 4 := ti_178.size
theorem fa_178_0 : FieldAt Tryz.prog 178 0 0 3 := FieldAt.of (by kernel_rfl)
theorem fa_178_1 : FieldAt Tryz.prog 178 1 1 4 := FieldAt.of (by kernel_rfl)
theorem fa_178_2 : FieldAt Tryz.prog 178 2 2 4 := FieldAt.of (by kernel_rfl)
theorem fa_178_3 : FieldAt Tryz.prog 178 3 3 3 := FieldAt.of (by kernel_rfl)
theorem pl_178 : Places Tryz.prog 178 [(0, 1), (1, 1), (2, 1), (3, 1)] := Places.of Tryz.underlying178 (by kernel_rfl)
theorem ni_178 : ∃ d, Tryz.prog.underlying 178 = some d ∧ ∀ k, d ≠ .int k := notInt_of Tryz.underlying178 rfl
theorem ag_179 : IsAgg Tryz.prog 179 := IsAgg.of Tryz.underlying179 rfl
theorem ti_179 : TyInfo Tryz.prog 179 4 24 [.int .i64 0, .bool false, .bool false, .int .i64 0] := TyInfo.of (by kernel_rfl)
theorem ts_179 : TySize Tryz.prog 179 4 := ti_179.size
theorem fa_179_0 : FieldAt Tryz.prog 179 0 0 3 := FieldAt.of (by kernel_rfl)
theorem fa_179_1 : FieldAt Tryz.prog 179 1 1 4 := FieldAt.of (by kernel_rfl)
theorem fa_179_2 : FieldAt Tryz.prog 179 2 2 4 := FieldAt.of (by kernel_rfl)
theorem fa_179_3 : FieldAt Tryz.prog 179 3 3 3 := FieldAt.of (by kernel_rfl)
theorem pl_179 : Places Tryz.prog 179 [(0, 1), (1, 1), (2, 1), (3, 1)] := Places.of Tryz.underlying179 (by kernel_rfl)
theorem ni_179 : ∃ d, Tryz.prog.underlying 179 = some d ∧ ∀ k, d ≠ .int k := notInt_of Tryz.underlying179 rfl
theorem sc_180 : Scalar Tryz.prog 180 := Scalar.of Tryz.underlying180 rfl
theorem ti_180 : TyInfo Tryz.prog 180 1 8 [.nilFunc] := TyInfo.of (by kernel_rfl)
theorem ts_180 : TySize Tryz.prog 180 1 := ti_180.size
theorem ni_180 : ∃ d, Tryz.prog.underlying 180 = some d ∧ ∀ k, d ≠ .int k := notInt_of Tryz.underlying180 rfl
theorem sc_182 : Scalar Tryz.prog 182 := Scalar.of Tryz.underlying182 rfl
theorem ti_182 : TyInfo Tryz.prog 182 1 8 [.nilFunc] := TyInfo.of (by kernel_rfl)
theorem ts_182 : TySize Tryz.prog 182 1 := ti_182.size
theorem ni_182 : ∃ d, Tryz.prog.underlying 182 = some d ∧ ∀ k, d ≠ .int k := notInt_of Tryz.underlying182 rfl
theorem sc_183 : Scalar Tryz.prog 183 := Scalar.of Tryz.underlying183 rfl
theorem ti_183 : TyInfo Tryz.prog 183 1 8 [.nilFunc] := TyInfo.of (by kernel_rfl)
theorem ts_183 : TySize Tryz.prog 183 1 := ti_183.size
theorem ni_183 : ∃ d, Tryz.prog.underlying 183 = some d ∧ ∀ k, d ≠ .int k := notInt_of Tryz.underlying183 rfl
theorem sc_184 : Scalar Tryz.prog 184 := Scalar.of Tryz.underlying184 rfl
theorem ti_184 : TyInfo Tryz.prog 184 1 8 [.nilFunc] := TyInfo.of (by kernel_rfl)
theorem ts_184 : TySize Tryz.prog 184 1 := ti_184.size
theorem ni_184 : ∃ d, Tryz.prog.underlying 184 = some d ∧ ∀ k, d ≠ .int k := notInt_of Tryz.underlying184 rfl
theorem sc_185 : Scalar Tryz.prog 185 := Scalar.of Tryz.underlying185 rfl
theorem ti_185 : TyInfo Tryz.prog 185 1 8 [.nilFunc] := TyInfo.of (by kernel_rfl)
theorem ts_185 : TySize Tryz.prog 185 1 := ti_185.size
theorem ni_185 : ∃ d, Tryz.prog.underlying 185 = some d ∧ ∀ k, d ≠ .int k := notInt_of Tryz.underlying185 rfl
theorem sc_186 : Scalar Tryz.prog 186 := Scalar.of Tryz.underlying186 rfl
theorem ti_186 : TyInfo Tryz.prog 186 1 24 [.slice none 0 0] := TyInfo.of (by kernel_rfl)
theorem ts_186 : TySize Tryz.prog 186 1 := ti_186.size
theorem ni_186 : ∃ d, Tryz.prog.underlying 186 = some d ∧ ∀ k, d ≠ .int k := notInt_of Tryz.underlying186 rfl
theorem sc_188 : Scalar Tryz.prog 188 := Scalar.of Tryz.underlying188 rfl
theorem ti_188 : TyInfo Tryz.prog 188 1 8 [.nilFunc] := TyInfo.of (by kernel_rfl)
theorem ts_188 : TySize Tryz.prog 188 1 := ti_188.size
theorem ni_188 : ∃ d, Tryz.prog.underlying 188 = some d ∧ ∀ k, d ≠ .int k := notInt_of Tryz.underlying188 rfl
theorem sc_189 : Scalar Tryz.prog 189 := Scalar.of Tryz.underlying189 rfl
theorem ti_189 : TyInfo Tryz.prog 189 1 8 [.nilFunc] := TyInfo.of (by kernel_rfl)
theorem ts_189 : TySize Tryz.prog 189 1 := ti_189.size
theorem ni_189 : ∃ d, Tryz.prog.underlying 189 = some d ∧ ∀ k, d ≠ .int k := notInt_of Tryz.underlying189 rfl
theorem sc_190 : Scalar Tryz.prog 190 := Scalar.of Tryz.underlying190 rfl
theorem ti_190 : TyInfo Tryz.prog 190 1 8 [.nilFunc] := TyInfo.of (by kernel_rfl)
theorem ts_190 : TySize Tryz.prog 190 1 := ti_190.size
theorem ni_190 : ∃ d, Tryz.prog.underlying 190 = some d ∧ ∀ k, d ≠ .int k := notInt_of Tryz.underlying190 rfl
theorem sc_191 : Scalar Tryz.prog 191 := Scalar.of Tryz.underlying191 rfl
theorem ti_191 : TyInfo Tryz.prog 191 1 8 [.nilFunc] := TyInfo.of (by kernel_rfl)
theorem ts_191 : TySize Tryz.prog 191 1 := ti_191.size
theorem ni_191 : ∃ d, Tryz.prog.underlying 191 = some d ∧ ∀ k, d ≠ .int k := notInt_of Tryz.underlying191 rfl
theorem sc_192 : Scalar Tryz.prog 192 := Scalar.of Tryz.underlying192 rfl
theorem ti_192 : TyInfo Tryz.prog 192 1 8 [.nilFunc] := TyInfo.of (by kernel_rfl)
theorem ts_192 : TySize Tryz.prog 192 1 := ti_192.size
theorem ni_192 : ∃ d, Tryz.prog.underlying 192 = some d ∧ ∀ k, d ≠ .int k := notInt_of Tryz.underlying192 rfl
theorem sc_194 : Scalar Tryz.prog 194 := Scalar.of Tryz.underlying194 rfl
theorem ti_194 : TyInfo Tryz.prog 194 1 8 [.nilFunc] := TyInfo.of (by kernel_rfl)
theorem ts_194 : TySize Tryz.prog 194 1 := ti_194.size
theorem ni_194 : ∃ d, Tryz.prog.underlying 194 = some d ∧ ∀ k, d ≠ .int k := notInt_of Tryz.underlying194 rfl
theorem sc_195 : Scalar Tryz.prog 195 := Scalar.of Tryz.underlying195 rfl
theorem ti_195 : TyInfo Tryz.prog 195 1 8 [.nilFunc] := TyInfo.of (by kernel_rfl)
theorem ts_195 : TySize Tryz.prog 195 1 := ti_195.size
theorem ni_195 : ∃ d, Tryz.prog.underlying 195 = some d ∧ ∀ k, d ≠ .int k := notInt_of Tryz.underlying195 rfl
theorem sc_196 : Scalar Tryz.prog 196 := Scalar.of Tryz.underlying196 rfl
theorem ti_196 : TyInfo Tryz.prog 196 1 8 [.nilFunc] := TyInfo.of (by kernel_rfl)
theorem ts_196 : TySize Tryz.prog 196 1 := ti_196.size
theorem ni_196 : ∃ d, Tryz.prog.underlying 196 = some d ∧ ∀ k, d ≠ .int k := notInt_of Tryz.underlying196 rfl
theorem sc_198 : Scalar Tryz.prog 198 := Scalar.of Tryz.underlying198 rfl
theorem ti_198 : TyInfo Tryz.prog 198 1 8 [.nilFunc] := TyInfo.of (by kernel_rfl)
theorem ts_198 : TySize Tryz.prog 198 1 := ti_198.size
theorem ni_198 : ∃ d, Tryz.prog.underlying 198 = some d ∧ ∀ k, d ≠ .int k := notInt_of Tryz.underlying198 rfl
theorem sc_200 : Scalar Tryz.prog 200 := Scalar.of Tryz.underlying200 rfl
theorem ti_200 : TyInfo Tryz.prog 200 1 8 [.nilFunc] := TyInfo.of (by kernel_rfl)
theorem ts_200 : TySize Tryz.prog 200 1 := ti_200.size
theorem ni_200 : ∃ d, Tryz.prog.underlying 200 = some d ∧ ∀ k, d ≠ .int k := notInt_of Tryz.underlying200 rfl
theorem sc_201 : Scalar Tryz.prog 201 := Scalar.of Tryz.underlying201 rfl
theorem ti_201 : TyInfo Tryz.prog 201 1 8 [.nilFunc] := TyInfo.of (by kernel_rfl)
theorem ts_201 : TySize Tryz.prog 201 1 := ti_201.size
theorem ni_201 : ∃ d, Tryz.prog.underlying 201 = some d ∧ ∀ k, d ≠ .int k := notInt_of Tryz.underlying201 rfl
theorem sc_202 : Scalar Tryz.prog 202 := Scalar.of Tryz.underlying202 rfl
theorem ti_202 : TyInfo Tryz.prog 202 1 8 [.nilFunc] := TyInfo.of (by kernel_rfl)
theorem ts_202 : TySize Tryz.prog 202 1 := ti_202.size
theorem ni_202 : ∃ d, Tryz.prog.underlying 202 = some d ∧ ∀ k, d ≠ .int k := notInt_of Tryz.underlying202 rfl
theorem sc_203 : Scalar Tryz.prog 203 := Scalar.of Tryz.underlying203 rfl
theorem ti_203 : TyInfo Tryz.prog 203 1 8 [.pointer none] := TyInfo.of (by kernel_rfl)
theorem ts_203 : TySize Tryz.prog 203 1 := ti_203.size
theorem ni_203 : ∃ d, Tryz.prog.underlying 203 = some d ∧ ∀ k, d ≠ .int k := notInt_of Tryz.underlying203 rfl
theorem sc_204 : Scalar Tryz.prog 204 := Scalar.of Tryz.underlying204 rfl
theorem ti_204 : TyInfo Tryz.prog 204 1 24 [.slice none 0 0] := TyInfo.of (by kernel_rfl)
theorem ts_204 : TySize Tryz.prog 204 1 := ti_204.size
theorem ni_204 : ∃ d, Tryz.prog.underlying 204 = some d ∧ ∀ k, d ≠ .int k := notInt_of Tryz.underlying204 rfl
theorem ag_205 : IsAgg Tryz.prog 205 := IsAgg.of Tryz.underlying205 rfl
theorem ti_205 : TyInfo Tryz.prog 205 3 24 [.int .i64 0, .int .i64 0, .int .i64 0] := TyInfo.of (by kernel_rfl)
theorem ts_205 : TySize Tryz.prog 205 3 := ti_205.size
theorem fa_205_0 : FieldAt Tryz.prog 205 0 0 3 := FieldAt.of (by kernel_rfl)
theorem fa_205_1 : FieldAt Tryz.prog 205 1 1 3 := FieldAt.of (by kernel_rfl)
theorem fa_205_2 : FieldAt Tryz.prog 205 2 2 3 := FieldAt.of (by kernel_rfl)
theorem pl_205 : Places Tryz.prog 205 [(0, 1), (1, 1), (2, 1)] := Places.of Tryz.underlying205 (by kernel_rfl)
theorem ni_205 : ∃ d, Tryz.prog.underlying 205 = some d ∧ ∀ k, d ≠ .int k := notInt_of Tryz.underlying205 rfl
theorem mixed : Tryz.prog.follows .mixedOrders = true := by kernel_rfl
end Go.Proofs.YtokbjejbgbdkoaaGreat
