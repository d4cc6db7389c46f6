/-
  Facts on the types of the program, each one closed equation. By program.
-/
import Derived.Test.YticfabhcfdmbjaaProg
import Derived.KernelRfl
import Derived.Test.YticfabhcfdmbjaaSl9
set_option linter.unusedVariables false
set_option linter.unusedSimpArgs false
namespace Go.Proofs.Yticfabhcfdmbjaa
open Go Go.Sl Go.Proofs
theorem sc_1 : Scalar Try.prog 1 := Scalar.of Try.underlying1 rfl
theorem ti_1 : TyInfo Try.prog 1 1 8 [.nilFunc] := TyInfo.of (by kernel_rfl)
theorem ts_1 : TySize Try.prog 1 1 := ti_1.size
theorem ni_1 : ∃ d, Try.prog.underlying 1 = some d ∧ ∀ k, d ≠ .int k := notInt_of Try.underlying1 rfl
theorem sc_2 : Scalar Try.prog 2 := Scalar.of Try.underlying2 rfl
theorem ti_2 : TyInfo Try.prog 2 1 8 [.int .i64 0] := TyInfo.of (by kernel_rfl)
theorem ts_2 : TySize Try.prog 2 1 := ti_2.size
theorem sc_3 : Scalar Try.prog 3 := Scalar.of Try.underlying3 rfl
theorem ti_3 : TyInfo Try.prog 3 1 8 [.int .i64 0] := TyInfo.of (by kernel_rfl)
theorem ts_3 : TySize Try.prog 3 1 := ti_3.size
theorem sc_4 : Scalar Try.prog 4 := Scalar.of Try.underlying4 rfl
theorem ti_4 : TyInfo Try.prog 4 1 1 [.bool false] := TyInfo.of (by kernel_rfl)
theorem ts_4 : TySize Try.prog 4 1 := ti_4.size
theorem ni_4 : ∃ d, Try.prog.underlying 4 = some d ∧ ∀ k, d ≠ .int k := notInt_of Try.underlying4 rfl
theorem sc_5 : Scalar Try.prog 5 := Scalar.of Try.underlying5 rfl
theorem ti_5 : TyInfo Try.prog 5 1 1 [.int .u8 0] := TyInfo.of (by kernel_rfl)
theorem ts_5 : TySize Try.prog 5 1 := ti_5.size
theorem sc_6 : Scalar Try.prog 6 := Scalar.of Try.underlying6 rfl
theorem ti_6 : TyInfo Try.prog 6 1 1 [.int .u8 0] := TyInfo.of (by kernel_rfl)
theorem ts_6 : TySize Try.prog 6 1 := ti_6.size
theorem ag_7 : IsAgg Try.prog 7 := IsAgg.of Try.underlying7 rfl
theorem ti_7 : TyInfo Try.prog 7 4 24 [.int .i64 0, .int .i64 0, .bool false, .int .u8 0] := TyInfo.of (by kernel_rfl)
theorem ts_7 : TySize Try.prog 7 4 := ti_7.size
theorem fa_7_0 : FieldAt Try.prog 7 0 0 2 := FieldAt.of (by kernel_rfl)
theorem fa_7_1 : FieldAt Try.prog 7 1 1 3 := FieldAt.of (by kernel_rfl)
theorem fa_7_2 : FieldAt Try.prog 7 2 2 4 := FieldAt.of (by kernel_rfl)
theorem fa_7_3 : FieldAt Try.prog 7 3 3 6 := FieldAt.of (by kernel_rfl)
theorem pl_7 : Places Try.prog 7 [(0, 1), (1, 1), (2, 1), (3, 1)] := Places.of Try.underlying7 (by kernel_rfl)
theorem ni_7 : ∃ d, Try.prog.underlying 7 = some d ∧ ∀ k, d ≠ .int k := notInt_of Try.underlying7 rfl
theorem ag_8 : IsAgg Try.prog 8 := IsAgg.of Try.underlying8 rfl
theorem ti_8 : TyInfo Try.prog 8 4 24 [.int .i64 0, .int .i64 0, .bool false, .int .u8 0] := TyInfo.of (by kernel_rfl)
theorem ts_8 : TySize Try.prog 8 4 := ti_8.size
theorem fa_8_0 : FieldAt Try.prog 8 0 0 2 := FieldAt.of (by kernel_rfl)
theorem fa_8_1 : FieldAt Try.prog 8 1 1 3 := FieldAt.of (by kernel_rfl)
theorem fa_8_2 : FieldAt Try.prog 8 2 2 4 := FieldAt.of (by kernel_rfl)
theorem fa_8_3 : FieldAt Try.prog 8 3 3 6 := FieldAt.of (by kernel_rfl)
theorem pl_8 : Places Try.prog 8 [(0, 1), (1, 1), (2, 1), (3, 1)] := Places.of Try.underlying8 (by kernel_rfl)
theorem ni_8 : ∃ d, Try.prog.underlying 8 = some d ∧ ∀ k, d ≠ .int k := notInt_of Try.underlying8 rfl
theorem sc_9 : Scalar Try.prog 9 := Scalar.of Try.underlying9 rfl
theorem ti_9 : TyInfo Try.prog 9 1 16 [strV []] := TyInfo.of (by kernel_rfl)
theorem ts_9 : TySize Try.prog 9 1 := ti_9.size
theorem ni_9 : ∃ d, Try.prog.underlying 9 = some d ∧ ∀ k, d ≠ .int k := notInt_of Try.underlying9 rfl
theorem sc_10 : Scalar Try.prog 10 := Scalar.of Try.underlying10 rfl
theorem ti_10 : TyInfo Try.prog 10 1 16 [strV []] := TyInfo.of (by kernel_rfl)
theorem ts_10 : TySize Try.prog 10 1 := ti_10.size
theorem ni_10 : ∃ d, Try.prog.underlying 10 = some d ∧ ∀ k, d ≠ .int k := notInt_of Try.underlying10 rfl
theorem sc_11 : Scalar Try.prog 11 := Scalar.of Try.underlying11 rfl
theorem ti_11 : TyInfo Try.prog 11 1 16 [strV []] := TyInfo.of (by kernel_rfl)
theorem ts_11 : TySize Try.prog 11 1 := ti_11.size
theorem ni_11 : ∃ d, Try.prog.underlying 11 = some d ∧ ∀ k, d ≠ .int k := notInt_of Try.underlying11 rfl
theorem sc_12 : Scalar Try.prog 12 := Scalar.of Try.underlying12 rfl
theorem ti_12 : TyInfo Try.prog 12 1 8 [.int .u64 0] := TyInfo.of (by kernel_rfl)
theorem ts_12 : TySize Try.prog 12 1 := ti_12.size
theorem ag_13 : IsAgg Try.prog 13 := IsAgg.of Try.underlying13 rfl
theorem ti_13 : TyInfo Try.prog 13 2 24 [strV [], .int .u64 0] := TyInfo.of (by kernel_rfl)
theorem ts_13 : TySize Try.prog 13 2 := ti_13.size
theorem fa_13_0 : FieldAt Try.prog 13 0 0 9 := FieldAt.of (by kernel_rfl)
theorem fa_13_1 : FieldAt Try.prog 13 1 1 12 := FieldAt.of (by kernel_rfl)
theorem pl_13 : Places Try.prog 13 [(0, 1), (1, 1)] := Places.of Try.underlying13 (by kernel_rfl)
theorem ni_13 : ∃ d, Try.prog.underlying 13 = some d ∧ ∀ k, d ≠ .int k := notInt_of Try.underlying13 rfl
theorem ag_14 : IsAgg Try.prog 14 := IsAgg.of Try.underlying14 rfl
theorem ti_14 : TyInfo Try.prog 14 2 24 [strV [], .int .u64 0] := TyInfo.of (by kernel_rfl)
theorem ts_14 : TySize Try.prog 14 2 := ti_14.size
theorem fa_14_0 : FieldAt Try.prog 14 0 0 9 := FieldAt.of (by kernel_rfl)
theorem fa_14_1 : FieldAt Try.prog 14 1 1 12 := FieldAt.of (by kernel_rfl)
theorem pl_14 : Places Try.prog 14 [(0, 1), (1, 1)] := Places.of Try.underlying14 (by kernel_rfl)
theorem ni_14 : ∃ d, Try.prog.underlying 14 = some d ∧ ∀ k, d ≠ .int k := notInt_of Try.underlying14 rfl
theorem sc_15 : Scalar Try.prog 15 := Scalar.of Try.underlying15 rfl
theorem ti_15 : TyInfo Try.prog 15 1 8 [.pointer none] := TyInfo.of (by kernel_rfl)
theorem ts_15 : TySize Try.prog 15 1 := ti_15.size
theorem ni_15 : ∃ d, Try.prog.underlying 15 = some d ∧ ∀ k, d ≠ .int k := notInt_of Try.underlying15 rfl
theorem sc_16 : Scalar Try.prog 16 := Scalar.of Try.underlying16 rfl
theorem ti_16 : TyInfo Try.prog 16 1 8 [.pointer none] := TyInfo.of (by kernel_rfl)
theorem ts_16 : TySize Try.prog 16 1 := ti_16.size
theorem ni_16 : ∃ d, Try.prog.underlying 16 = some d ∧ ∀ k, d ≠ .int k := notInt_of Try.underlying16 rfl
theorem sc_17 : Scalar Try.prog 17 := Scalar.of Try.underlying17 rfl
theorem ti_17 : TyInfo Try.prog 17 1 8 [.pointer none] := TyInfo.of (by kernel_rfl)
theorem ts_17 : TySize Try.prog 17 1 := ti_17.size
theorem ni_17 : ∃ d, Try.prog.underlying 17 = some d ∧ ∀ k, d ≠ .int k := notInt_of Try.underlying17 rfl
theorem ag_18 : IsAgg Try.prog 18 := IsAgg.of Try.underlying18 rfl
theorem ti_18 : TyInfo Try.prog 18 1 8 [.pointer none] := TyInfo.of (by kernel_rfl)
theorem ts_18 : TySize Try.prog 18 1 := ti_18.size
theorem fa_18_0 : FieldAt Try.prog 18 0 0 17 := FieldAt.of (by kernel_rfl)
theorem pl_18 : Places Try.prog 18 [(0, 1)] := Places.of Try.underlying18 (by kernel_rfl)
theorem ni_18 : ∃ d, Try.prog.underlying 18 = some d ∧ ∀ k, d ≠ .int k := notInt_of Try.underlying18 rfl
theorem ag_19 : IsAgg Try.prog 19 := IsAgg.of Try.underlying19 rfl
theorem ti_19 : TyInfo Try.prog 19 1 8 [.pointer none] := TyInfo.of (by kernel_rfl)
theorem ts_19 : TySize Try.prog 19 1 := ti_19.size
theorem fa_19_0 : FieldAt Try.prog 19 0 0 17 := FieldAt.of (by kernel_rfl)
theorem pl_19 : Places Try.prog 19 [(0, 1)] := Places.of Try.underlying19 (by kernel_rfl)
theorem ni_19 : ∃ d, Try.prog.underlying 19 = some d ∧ ∀ k, d ≠ .int k := notInt_of Try.underlying19 rfl
theorem sc_20 : Scalar Try.prog 20 := Scalar.of Try.underlying20 rfl
theorem ti_20 : TyInfo Try.prog 20 1 16 [.nilIface] := TyInfo.of (by kernel_rfl)
theorem ts_20 : TySize Try.prog 20 1 := ti_20.size
theorem ni_20 : ∃ d, Try.prog.underlying 20 = some d ∧ ∀ k, d ≠ .int k := notInt_of Try.underlying20 rfl
theorem sc_21 : Scalar Try.prog 21 := Scalar.of Try.underlying21 rfl
theorem ti_21 : TyInfo Try.prog 21 1 4 [.int .i32 0] := TyInfo.of (by kernel_rfl)
theorem ts_21 : TySize Try.prog 21 1 := ti_21.size
theorem sc_22 : Scalar Try.prog 22 := Scalar.of Try.underlying22 rfl
theorem ti_22 : TyInfo Try.prog 22 1 8 [.nilFunc] := TyInfo.of (by kernel_rfl)
theorem ts_22 : TySize Try.prog 22 1 := ti_22.size
theorem ni_22 : ∃ d, Try.prog.underlying 22 = some d ∧ ∀ k, d ≠ .int k := notInt_of Try.underlying22 rfl
theorem sc_23 : Scalar Try.prog 23 := Scalar.of Try.underlying23 rfl
theorem ti_23 : TyInfo Try.prog 23 1 8 [.pointer none] := TyInfo.of (by kernel_rfl)
theorem ts_23 : TySize Try.prog 23 1 := ti_23.size
theorem ni_23 : ∃ d, Try.prog.underlying 23 = some d ∧ ∀ k, d ≠ .int k := notInt_of Try.underlying23 rfl
theorem sc_24 : Scalar Try.prog 24 := Scalar.of Try.underlying24 rfl
theorem ti_24 : TyInfo Try.prog 24 1 8 [.int .i64 0] := TyInfo.of (by kernel_rfl)
theorem ts_24 : TySize Try.prog 24 1 := ti_24.size
theorem sc_26 : Scalar Try.prog 26 := Scalar.of Try.underlying26 rfl
theorem ti_26 : TyInfo Try.prog 26 1 8 [.nilFunc] := TyInfo.of (by kernel_rfl)
theorem ts_26 : TySize Try.prog 26 1 := ti_26.size
theorem ni_26 : ∃ d, Try.prog.underlying 26 = some d ∧ ∀ k, d ≠ .int k := notInt_of Try.underlying26 rfl
theorem sc_28 : Scalar Try.prog 28 := Scalar.of Try.underlying28 rfl
theorem ti_28 : TyInfo Try.prog 28 1 8 [.nilFunc] := TyInfo.of (by kernel_rfl)
theorem ts_28 : TySize Try.prog 28 1 := ti_28.size
theorem ni_28 : ∃ d, Try.prog.underlying 28 = some d ∧ ∀ k, d ≠ .int k := notInt_of Try.underlying28 rfl
theorem sc_29 : Scalar Try.prog 29 := Scalar.of Try.underlying29 rfl
theorem ti_29 : TyInfo Try.prog 29 1 8 [.nilFunc] := TyInfo.of (by kernel_rfl)
theorem ts_29 : TySize Try.prog 29 1 := ti_29.size
theorem ni_29 : ∃ d, Try.prog.underlying 29 = some d ∧ ∀ k, d ≠ .int k := notInt_of Try.underlying29 rfl
theorem sc_30 : Scalar Try.prog 30 := Scalar.of Try.underlying30 rfl
theorem ti_30 : TyInfo Try.prog 30 1 8 [.nilFunc] := TyInfo.of (by kernel_rfl)
theorem ts_30 : TySize Try.prog 30 1 := ti_30.size
theorem ni_30 : ∃ d, Try.prog.underlying 30 = some d ∧ ∀ k, d ≠ .int k := notInt_of Try.underlying30 rfl
theorem sc_31 : Scalar Try.prog 31 := Scalar.of Try.underlying31 rfl
theorem ti_31 : TyInfo Try.prog 31 1 24 [.slice none 0 0] := TyInfo.of (by kernel_rfl)
theorem ts_31 : TySize Try.prog 31 1 := ti_31.size
theorem ni_31 : ∃ d, Try.prog.underlying 31 = some d ∧ ∀ k, d ≠ .int k := notInt_of Try.underlying31 rfl
theorem sc_32 : Scalar Try.prog 32 := Scalar.of Try.underlying32 rfl
theorem ti_32 : TyInfo Try.prog 32 1 8 [.nilFunc] := TyInfo.of (by kernel_rfl)
theorem ts_32 : TySize Try.prog 32 1 := ti_32.size
theorem ni_32 : ∃ d, Try.prog.underlying 32 = some d ∧ ∀ k, d ≠ .int k := notInt_of Try.underlying32 rfl
theorem sc_33 : Scalar Try.prog 33 := Scalar.of Try.underlying33 rfl
theorem ti_33 : TyInfo Try.prog 33 1 8 [.nilFunc] := TyInfo.of (by kernel_rfl)
theorem ts_33 : TySize Try.prog 33 1 := ti_33.size
theorem ni_33 : ∃ d, Try.prog.underlying 33 = some d ∧ ∀ k, d ≠ .int k := notInt_of Try.underlying33 rfl
theorem ag_34 : IsAgg Try.prog 34 := IsAgg.of Try.underlying34 rfl
theorem ti_34 : TyInfo Try.prog 34 4 40 [.int .i64 0, .int .i64 0, .int .i64 0, strV []] := TyInfo.of (by kernel_rfl)
theorem ts_34 : TySize Try.prog 34 4 := ti_34.size
theorem fa_34_0 : FieldAt Try.prog 34 0 0 3 := FieldAt.of (by kernel_rfl)
theorem fa_34_1 : FieldAt Try.prog 34 1 1 3 := FieldAt.of (by kernel_rfl)
theorem fa_34_2 : FieldAt Try.prog 34 2 2 3 := FieldAt.of (by kernel_rfl)
theorem fa_34_3 : FieldAt Try.prog 34 3 3 9 := FieldAt.of (by kernel_rfl)
theorem pl_34 : Places Try.prog 34 [(0, 1), (1, 1), (2, 1), (3, 1)] := Places.of Try.underlying34 (by kernel_rfl)
theorem ni_34 : ∃ d, Try.prog.underlying 34 = some d ∧ ∀ k, d ≠ .int k := notInt_of Try.underlying34 rfl
theorem ag_35 : IsAgg Try.prog 35 := IsAgg.of Try.underlying35 rfl
theorem ti_35 : TyInfo Try.prog 35 4 40 [.int .i64 0, .int .i64 0, .int .i64 0, strV []] := TyInfo.of (by kernel_rfl)
theorem ts_35 : TySize Try.prog 35 4 := ti_35.size
theorem fa_35_0 : FieldAt Try.prog 35 0 0 3 := FieldAt.of (by kernel_rfl)
theorem fa_35_1 : FieldAt Try.prog 35 1 1 3 := FieldAt.of (by kernel_rfl)
theorem fa_35_2 : FieldAt Try.prog 35 2 2 3 := FieldAt.of (by kernel_rfl)
theorem fa_35_3 : FieldAt Try.prog 35 3 3 9 := FieldAt.of (by kernel_rfl)
theorem pl_35 : Places Try.prog 35 [(0, 1), (1, 1), (2, 1), (3, 1)] := Places.of Try.underlying35 (by kernel_rfl)
theorem ni_35 : ∃ d, Try.prog.underlying 35 = some d ∧ ∀ k, d ≠ .int k := notInt_of Try.underlying35 rfl
theorem sc_37 : Scalar Try.prog 37 := Scalar.of Try.underlying37 rfl
theorem ti_37 : TyInfo Try.prog 37 1 8 [.nilFunc] := TyInfo.of (by kernel_rfl)
theorem ts_37 : TySize Try.prog 37 1 := ti_37.size
theorem ni_37 : ∃ d, Try.prog.underlying 37 = some d ∧ ∀ k, d ≠ .int k := notInt_of Try.underlying37 rfl
theorem sc_38 : Scalar Try.prog 38 := Scalar.of Try.underlying38 rfl
theorem ti_38 : TyInfo Try.prog 38 1 8 [.nilFunc] := TyInfo.of (by kernel_rfl)
theorem ts_38 : TySize Try.prog 38 1 := ti_38.size
theorem ni_38 : ∃ d, Try.prog.underlying 38 = some d ∧ ∀ k, d ≠ .int k := notInt_of Try.underlying38 rfl
theorem sc_39 : Scalar Try.prog 39 := Scalar.of Try.underlying39 rfl
theorem ti_39 : TyInfo Try.prog 39 1 8 [.nilFunc] := TyInfo.of (by kernel_rfl)
theorem ts_39 : TySize Try.prog 39 1 := ti_39.size
theorem ni_39 : ∃ d, Try.prog.underlying 39 = some d ∧ ∀ k, d ≠ .int k := notInt_of Try.underlying39 rfl
theorem sc_40 : Scalar Try.prog 40 := Scalar.of Try.underlying40 rfl
theorem ti_40 : TyInfo Try.prog 40 1 24 [.slice none 0 0] := TyInfo.of (by kernel_rfl)
theorem ts_40 : TySize Try.prog 40 1 := ti_40.size
theorem ni_40 : ∃ d, Try.prog.underlying 40 = some d ∧ ∀ k, d ≠ .int k := notInt_of Try.underlying40 rfl
theorem sc_41 : Scalar Try.prog 41 := Scalar.of Try.underlying41 rfl
theorem ti_41 : TyInfo Try.prog 41 1 8 [.nilFunc] := TyInfo.of (by kernel_rfl)
theorem ts_41 : TySize Try.prog 41 1 := ti_41.size
theorem ni_41 : ∃ d, Try.prog.underlying 41 = some d ∧ ∀ k, d ≠ .int k := notInt_of Try.underlying41 rfl
theorem sc_42 : Scalar Try.prog 42 := Scalar.of Try.underlying42 rfl
theorem ti_42 : TyInfo Try.prog 42 1 8 [.nilFunc] := TyInfo.of (by kernel_rfl)
theorem ts_42 : TySize Try.prog 42 1 := ti_42.size
theorem ni_42 : ∃ d, Try.prog.underlying 42 = some d ∧ ∀ k, d ≠ .int k := notInt_of Try.underlying42 rfl
theorem sc_43 : Scalar Try.prog 43 := Scalar.of Try.underlying43 rfl
theorem ti_43 : TyInfo Try.prog 43 1 8 [.nilFunc] := TyInfo.of (by kernel_rfl)
theorem ts_43 : TySize Try.prog 43 1 := ti_43.size
theorem ni_43 : ∃ d, Try.prog.underlying 43 = some d ∧ ∀ k, d ≠ .int k := notInt_of Try.underlying43 rfl
theorem sc_44 : Scalar Try.prog 44 := Scalar.of Try.underlying44 rfl
theorem ti_44 : TyInfo Try.prog 44 1 8 [.nilFunc] := TyInfo.of (by kernel_rfl)
theorem ts_44 : TySize Try.prog 44 1 := ti_44.size
theorem ni_44 : ∃ d, Try.prog.underlying 44 = some d ∧ ∀ k, d ≠ .int k := notInt_of Try.underlying44 rfl
theorem sc_45 : Scalar Try.prog 45 := Scalar.of Try.underlying45 rfl
theorem ti_45 : TyInfo Try.prog 45 1 24 [.slice none 0 0] := TyInfo.of (by kernel_rfl)
theorem ts_45 : TySize Try.prog 45 1 := ti_45.size
theorem ni_45 : ∃ d, Try.prog.underlying 45 = some d ∧ ∀ k, d ≠ .int k := notInt_of Try.underlying45 rfl
theorem sc_47 : Scalar Try.prog 47 := Scalar.of Try.underlying47 rfl
theorem ti_47 : TyInfo Try.prog 47 1 8 [.nilFunc] := TyInfo.of (by kernel_rfl)
theorem ts_47 : TySize Try.prog 47 1 := ti_47.size
theorem ni_47 : ∃ d, Try.prog.underlying 47 = some d ∧ ∀ k, d ≠ .int k := notInt_of Try.underlying47 rfl
theorem sc_48 : Scalar Try.prog 48 := Scalar.of Try.underlying48 rfl
theorem ti_48 : TyInfo Try.prog 48 1 4 [.int .u32 0] := TyInfo.of (by kernel_rfl)
theorem ts_48 : TySize Try.prog 48 1 := ti_48.size
theorem sc_49 : Scalar Try.prog 49 := Scalar.of Try.underlying49 rfl
theorem ti_49 : TyInfo Try.prog 49 1 24 [.slice none 0 0] := TyInfo.of (by kernel_rfl)
theorem ts_49 : TySize Try.prog 49 1 := ti_49.size
theorem ni_49 : ∃ d, Try.prog.underlying 49 = some d ∧ ∀ k, d ≠ .int k := notInt_of Try.underlying49 rfl
theorem ag_50 : IsAgg Try.prog 50 := IsAgg.of Try.underlying50 rfl
theorem ti_50 : TyInfo Try.prog 50 4 40 [.int .i64 0, .int .u32 0, .int .u32 0, .slice none 0 0] := TyInfo.of (by kernel_rfl)
theorem ts_50 : TySize Try.prog 50 4 := ti_50.size
theorem fa_50_0 : FieldAt Try.prog 50 0 0 3 := FieldAt.of (by kernel_rfl)
theorem fa_50_1 : FieldAt Try.prog 50 1 1 48 := FieldAt.of (by kernel_rfl)
theorem fa_50_2 : FieldAt Try.prog 50 2 2 48 := FieldAt.of (by kernel_rfl)
theorem fa_50_3 : FieldAt Try.prog 50 3 3 49 := FieldAt.of (by kernel_rfl)
theorem pl_50 : Places Try.prog 50 [(0, 1), (1, 1), (2, 1), (3, 1)] := Places.of Try.underlying50 (by kernel_rfl)
theorem ni_50 : ∃ d, Try.prog.underlying 50 = some d ∧ ∀ k, d ≠ .int k := notInt_of Try.underlying50 rfl
theorem ag_51 : IsAgg Try.prog 51 := IsAgg.of Try.underlying51 rfl
theorem ti_51 : TyInfo Try.prog 51 4 40 [.int .i64 0, .int .u32 0, .int .u32 0, .slice none 0 0] := TyInfo.of (by kernel_rfl)
theorem ts_51 : TySize Try.prog 51 4 := ti_51.size
theorem fa_51_0 : FieldAt Try.prog 51 0 0 3 := FieldAt.of (by kernel_rfl)
theorem fa_51_1 : FieldAt Try.prog 51 1 1 48 := FieldAt.of (by kernel_rfl)
theorem fa_51_2 : FieldAt Try.prog 51 2 2 48 := FieldAt.of (by kernel_rfl)
theorem fa_51_3 : FieldAt Try.prog 51 3 3 49 := FieldAt.of (by kernel_rfl)
theorem pl_51 : Places Try.prog 51 [(0, 1), (1, 1), (2, 1), (3, 1)] := Places.of Try.underlying51 (by kernel_rfl)
theorem ni_51 : ∃ d, Try.prog.underlying 51 = some d ∧ ∀ k, d ≠ .int k := notInt_of Try.underlying51 rfl
theorem ag_52 : IsAgg Try.prog 52 := IsAgg.of Try.underlying52 rfl
theorem ti_52 : TyInfo Try.prog 52 32 32 [.int .u8 0, .int .u8 0, .int .u8 0, .int .u8 0, .int .u8 0, .int .u8 0, .int .u8 0, .int .u8 0, .int .u8 0, .int .u8 0, .int .u8 0, .int .u8 0, .int .u8 0, .int .u8 0, .int .u8 0, .int .u8 0, .int .u8 0, .int .u8 0, .int .u8 0, .int .u8 0, .int .u8 0, .int .u8 0, .int .u8 0, .int .u8 0, .int .u8 0, .int .u8 0, .int .u8 0, .int .u8 0, .int .u8 0, .int .u8 0, .int .u8 0, .int .u8 0] := TyInfo.of (by kernel_rfl)
theorem ts_52 : TySize Try.prog 52 32 := ti_52.size
theorem ni_52 : ∃ d, Try.prog.underlying 52 = some d ∧ ∀ k, d ≠ .int k := notInt_of Try.underlying52 rfl
theorem ag_53 : IsAgg Try.prog 53 := IsAgg.of Try.underlying53 rfl
theorem ti_53 : TyInfo Try.prog 53 39 64 [.int .i64 0, .int .u32 0, .int .u32 0, .int .u32 0, .int .u32 0, .int .u32 0, .int .u32 0, .int .u8 0, .int .u8 0, .int .u8 0, .int .u8 0, .int .u8 0, .int .u8 0, .int .u8 0, .int .u8 0, .int .u8 0, .int .u8 0, .int .u8 0, .int .u8 0, .int .u8 0, .int .u8 0, .int .u8 0, .int .u8 0, .int .u8 0, .int .u8 0, .int .u8 0, .int .u8 0, .int .u8 0, .int .u8 0, .int .u8 0, .int .u8 0, .int .u8 0, .int .u8 0, .int .u8 0, .int .u8 0, .int .u8 0, .int .u8 0, .int .u8 0, .int .u8 0] := TyInfo.of (by kernel_rfl)
theorem ts_53 : TySize Try.prog 53 39 := ti_53.size
theorem fa_53_0 : FieldAt Try.prog 53 0 0 3 := FieldAt.of (by kernel_rfl)
theorem fa_53_1 : FieldAt Try.prog 53 1 1 48 := FieldAt.of (by kernel_rfl)
theorem fa_53_2 : FieldAt Try.prog 53 2 2 48 := FieldAt.of (by kernel_rfl)
theorem fa_53_3 : FieldAt Try.prog 53 3 3 48 := FieldAt.of (by kernel_rfl)
theorem fa_53_4 : FieldAt Try.prog 53 4 4 48 := FieldAt.of (by kernel_rfl)
theorem fa_53_5 : FieldAt Try.prog 53 5 5 48 := FieldAt.of (by kernel_rfl)
theorem fa_53_6 : FieldAt Try.prog 53 6 6 48 := FieldAt.of (by kernel_rfl)
theorem fa_53_7 : FieldAt Try.prog 53 7 7 52 := FieldAt.of (by kernel_rfl)
theorem pl_53 : Places Try.prog 53 [(0, 1), (1, 1), (2, 1), (3, 1), (4, 1), (5, 1), (6, 1), (7, 32)] := Places.of Try.underlying53 (by kernel_rfl)
theorem ni_53 : ∃ d, Try.prog.underlying 53 = some d ∧ ∀ k, d ≠ .int k := notInt_of Try.underlying53 rfl
theorem ag_54 : IsAgg Try.prog 54 := IsAgg.of Try.underlying54 rfl
theorem ti_54 : TyInfo Try.prog 54 39 64 [.int .i64 0, .int .u32 0, .int .u32 0, .int .u32 0, .int .u32 0, .int .u32 0, .int .u32 0, .int .u8 0, .int .u8 0, .int .u8 0, .int .u8 0, .int .u8 0, .int .u8 0, .int .u8 0, .int .u8 0, .int .u8 0, .int .u8 0, .int .u8 0, .int .u8 0, .int .u8 0, .int .u8 0, .int .u8 0, .int .u8 0, .int .u8 0, .int .u8 0, .int .u8 0, .int .u8 0, .int .u8 0, .int .u8 0, .int .u8 0, .int .u8 0, .int .u8 0, .int .u8 0, .int .u8 0, .int .u8 0, .int .u8 0, .int .u8 0, .int .u8 0, .int .u8 0] := TyInfo.of (by kernel_rfl)
theorem ts_54 : TySize Try.prog 54 39 := ti_54.size
theorem fa_54_0 : FieldAt Try.prog 54 0 0 3 := FieldAt.of (by kernel_rfl)
theorem fa_54_1 : FieldAt Try.prog 54 1 1 48 := FieldAt.of (by kernel_rfl)
theorem fa_54_2 : FieldAt Try.prog 54 2 2 48 := FieldAt.of (by kernel_rfl)
theorem fa_54_3 : FieldAt Try.prog 54 3 3 48 := FieldAt.of (by kernel_rfl)
theorem fa_54_4 : FieldAt Try.prog 54 4 4 48 := FieldAt.of (by kernel_rfl)
theorem fa_54_5 : FieldAt Try.prog 54 5 5 48 := FieldAt.of (by kernel_rfl)
theorem fa_54_6 : FieldAt Try.prog 54 6 6 48 := FieldAt.of (by kernel_rfl)
theorem fa_54_7 : FieldAt Try.prog 54 7 7 52 := FieldAt.of (by kernel_rfl)
theorem pl_54 : Places Try.prog 54 [(0, 1), (1, 1), (2, 1), (3, 1), (4, 1), (5, 1), (6, 1), (7, 32)] := Places.of Try.underlying54 (by kernel_rfl)
theorem ni_54 : ∃ d, Try.prog.underlying 54 = some d ∧ ∀ k, d ≠ .int k := notInt_of Try.underlying54 rfl
theorem sc_55 : Scalar Try.prog 55 := Scalar.of Try.underlying55 rfl
theorem ti_55 : TyInfo Try.prog 55 1 8 [.nilFunc] := TyInfo.of (by kernel_rfl)
theorem ts_55 : TySize Try.prog 55 1 := ti_55.size
theorem ni_55 : ∃ d, Try.prog.underlying 55 = some d ∧ ∀ k, d ≠ .int k := notInt_of Try.underlying55 rfl
theorem sc_56 : Scalar Try.prog 56 := Scalar.of Try.underlying56 rfl
theorem ti_56 : TyInfo Try.prog 56 1 8 [.nilFunc] := TyInfo.of (by kernel_rfl)
theorem ts_56 : TySize Try.prog 56 1 := ti_56.size
theorem ni_56 : ∃ d, Try.prog.underlying 56 = some d ∧ ∀ k, d ≠ .int k := notInt_of Try.underlying56 rfl
theorem ag_57 : IsAgg Try.prog 57 := IsAgg.of Try.underlying57 rfl
theorem ti_57 : TyInfo Try.prog 57 4 40 [.int .i64 0, .int .u32 0, .int .u32 0, .slice none 0 0] := TyInfo.of (by kernel_rfl)
theorem ts_57 : TySize Try.prog 57 4 := ti_57.size
theorem fa_57_0 : FieldAt Try.prog 57 0 0 3 := FieldAt.of (by kernel_rfl)
theorem fa_57_1 : FieldAt Try.prog 57 1 1 48 := FieldAt.of (by kernel_rfl)
theorem fa_57_2 : FieldAt Try.prog 57 2 2 48 := FieldAt.of (by kernel_rfl)
theorem fa_57_3 : FieldAt Try.prog 57 3 3 49 := FieldAt.of (by kernel_rfl)
theorem pl_57 : Places Try.prog 57 [(0, 1), (1, 1), (2, 1), (3, 1)] := Places.of Try.underlying57 (by kernel_rfl)
theorem ni_57 : ∃ d, Try.prog.underlying 57 = some d ∧ ∀ k, d ≠ .int k := notInt_of Try.underlying57 rfl
theorem sc_58 : Scalar Try.prog 58 := Scalar.of Try.underlying58 rfl
theorem ti_58 : TyInfo Try.prog 58 1 24 [.slice none 0 0] := TyInfo.of (by kernel_rfl)
theorem ts_58 : TySize Try.prog 58 1 := ti_58.size
theorem ni_58 : ∃ d, Try.prog.underlying 58 = some d ∧ ∀ k, d ≠ .int k := notInt_of Try.underlying58 rfl
theorem sc_59 : Scalar Try.prog 59 := Scalar.of Try.underlying59 rfl
theorem ti_59 : TyInfo Try.prog 59 1 8 [.nilFunc] := TyInfo.of (by kernel_rfl)
theorem ts_59 : TySize Try.prog 59 1 := ti_59.size
theorem ni_59 : ∃ d, Try.prog.underlying 59 = some d ∧ ∀ k, d ≠ .int k := notInt_of Try.underlying59 rfl
theorem sc_60 : Scalar Try.prog 60 := Scalar.of Try.underlying60 rfl
theorem ti_60 : TyInfo Try.prog 60 1 8 [.nilFunc] := TyInfo.of (by kernel_rfl)
theorem ts_60 : TySize Try.prog 60 1 := ti_60.size
theorem ni_60 : ∃ d, Try.prog.underlying 60 = some d ∧ ∀ k, d ≠ .int k := notInt_of Try.underlying60 rfl
theorem sc_61 : Scalar Try.prog 61 := Scalar.of Try.underlying61 rfl
theorem ti_61 : TyInfo Try.prog 61 1 8 [.nilFunc] := TyInfo.of (by kernel_rfl)
theorem ts_61 : TySize Try.prog 61 1 := ti_61.size
theorem ni_61 : ∃ d, Try.prog.underlying 61 = some d ∧ ∀ k, d ≠ .int k := notInt_of Try.underlying61 rfl
theorem sc_62 : Scalar Try.prog 62 := Scalar.of Try.underlying62 rfl
theorem ti_62 : TyInfo Try.prog 62 1 24 [.slice none 0 0] := TyInfo.of (by kernel_rfl)
theorem ts_62 : TySize Try.prog 62 1 := ti_62.size
theorem ni_62 : ∃ d, Try.prog.underlying 62 = some d ∧ ∀ k, d ≠ .int k := notInt_of Try.underlying62 rfl
theorem sc_63 : Scalar Try.prog 63 := Scalar.of Try.underlying63 rfl
theorem ti_63 : TyInfo Try.prog 63 1 24 [.slice none 0 0] := TyInfo.of (by kernel_rfl)
theorem ts_63 : TySize Try.prog 63 1 := ti_63.size
theorem ni_63 : ∃ d, Try.prog.underlying 63 = some d ∧ ∀ k, d ≠ .int k := notInt_of Try.underlying63 rfl
theorem sc_64 : Scalar Try.prog 64 := Scalar.of Try.underlying64 rfl
theorem ti_64 : TyInfo Try.prog 64 1 8 [.nilFunc] := TyInfo.of (by kernel_rfl)
theorem ts_64 : TySize Try.prog 64 1 := ti_64.size
theorem ni_64 : ∃ d, Try.prog.underlying 64 = some d ∧ ∀ k, d ≠ .int k := notInt_of Try.underlying64 rfl
theorem ag_65 : IsAgg Try.prog 65 := IsAgg.of Try.underlying65 rfl
theorem ti_65 : TyInfo Try.prog 65 4 32 [.int .i64 0, .int .i64 0, .int .i64 0, .int .i64 0] := TyInfo.of (by kernel_rfl)
theorem ts_65 : TySize Try.prog 65 4 := ti_65.size
theorem fa_65_0 : FieldAt Try.prog 65 0 0 3 := FieldAt.of (by kernel_rfl)
theorem fa_65_1 : FieldAt Try.prog 65 1 1 3 := FieldAt.of (by kernel_rfl)
theorem fa_65_2 : FieldAt Try.prog 65 2 2 3 := FieldAt.of (by kernel_rfl)
theorem fa_65_3 : FieldAt Try.prog 65 3 3 3 := FieldAt.of (by kernel_rfl)
theorem pl_65 : Places Try.prog 65 [(0, 1), (1, 1), (2, 1), (3, 1)] := Places.of Try.underlying65 (by kernel_rfl)
theorem ni_65 : ∃ d, Try.prog.underlying 65 = some d ∧ ∀ k, d ≠ .int k := notInt_of Try.underlying65 rfl
theorem ag_66 : IsAgg Try.prog 66 := IsAgg.of Try.underlying66 rfl
theorem ti_66 : TyInfo Try.prog 66 4 32 [.int .i64 0, .int .i64 0, .int .i64 0, .int .i64 0] := TyInfo.of (by kernel_rfl)
theorem ts_66 : TySize Try.prog 66 4 := ti_66.size
theorem fa_66_0 : FieldAt Try.prog 66 0 0 3 := FieldAt.of (by kernel_rfl)
theorem fa_66_1 : FieldAt Try.prog 66 1 1 3 := FieldAt.of (by kernel_rfl)
theorem fa_66_2 : FieldAt Try.prog 66 2 2 3 := FieldAt.of (by kernel_rfl)
theorem fa_66_3 : FieldAt Try.prog 66 3 3 3 := FieldAt.of (by kernel_rfl)
theorem pl_66 : Places Try.prog 66 [(0, 1), (1, 1), (2, 1), (3, 1)] := Places.of Try.underlying66 (by kernel_rfl)
theorem ni_66 : ∃ d, Try.prog.underlying 66 = some d ∧ ∀ k, d ≠ .int k := notInt_of Try.underlying66 rfl
theorem sc_67 : Scalar Try.prog 67 := Scalar.of Try.underlying67 rfl
theorem ti_67 : TyInfo Try.prog 67 1 8 [.nilFunc] := TyInfo.of (by kernel_rfl)
theorem ts_67 : TySize Try.prog 67 1 := ti_67.size
theorem ni_67 : ∃ d, Try.prog.underlying 67 = some d ∧ ∀ k, d ≠ .int k := notInt_of Try.underlying67 rfl
theorem sc_68 : Scalar Try.prog 68 := Scalar.of Try.underlying68 rfl
theorem ti_68 : TyInfo Try.prog 68 1 24 [.slice none 0 0] := TyInfo.of (by kernel_rfl)
theorem ts_68 : TySize Try.prog 68 1 := ti_68.size
theorem ni_68 : ∃ d, Try.prog.underlying 68 = some d ∧ ∀ k, d ≠ .int k := notInt_of Try.underlying68 rfl
theorem sc_69 : Scalar Try.prog 69 := Scalar.of Try.underlying69 rfl
theorem ti_69 : TyInfo Try.prog 69 1 8 [.nilFunc] := TyInfo.of (by kernel_rfl)
theorem ts_69 : TySize Try.prog 69 1 := ti_69.size
theorem ni_69 : ∃ d, Try.prog.underlying 69 = some d ∧ ∀ k, d ≠ .int k := notInt_of Try.underlying69 rfl
theorem sc_70 : Scalar Try.prog 70 := Scalar.of Try.underlying70 rfl
theorem ti_70 : TyInfo Try.prog 70 1 8 [.nilFunc] := TyInfo.of (by kernel_rfl)
theorem ts_70 : TySize Try.prog 70 1 := ti_70.size
theorem ni_70 : ∃ d, Try.prog.underlying 70 = some d ∧ ∀ k, d ≠ .int k := notInt_of Try.underlying70 rfl
theorem sc_71 : Scalar Try.prog 71 := Scalar.of Try.underlying71 rfl
theorem ti_71 : TyInfo Try.prog 71 1 8 [.nilFunc] := TyInfo.of (by kernel_rfl)
theorem ts_71 : TySize Try.prog 71 1 := ti_71.size
theorem ni_71 : ∃ d, Try.prog.underlying 71 = some d ∧ ∀ k, d ≠ .int k := notInt_of Try.underlying71 rfl
theorem sc_72 : Scalar Try.prog 72 := Scalar.of Try.underlying72 rfl
theorem ti_72 : TyInfo Try.prog 72 1 8 [.nilFunc] := TyInfo.of (by kernel_rfl)
theorem ts_72 : TySize Try.prog 72 1 := ti_72.size
theorem ni_72 : ∃ d, Try.prog.underlying 72 = some d ∧ ∀ k, d ≠ .int k := notInt_of Try.underlying72 rfl
theorem sc_73 : Scalar Try.prog 73 := Scalar.of Try.underlying73 rfl
theorem ti_73 : TyInfo Try.prog 73 1 24 [.slice none 0 0] := TyInfo.of (by kernel_rfl)
theorem ts_73 : TySize Try.prog 73 1 := ti_73.size
theorem ni_73 : ∃ d, Try.prog.underlying 73 = some d ∧ ∀ k, d ≠ .int k := notInt_of Try.underlying73 rfl
theorem ag_74 : IsAgg Try.prog 74 := IsAgg.of Try.underlying74 rfl
theorem ti_74 : TyInfo Try.prog 74 1 24 [.slice none 0 0] := TyInfo.of (by kernel_rfl)
theorem ts_74 : TySize Try.prog 74 1 := ti_74.size
theorem fa_74_0 : FieldAt Try.prog 74 0 0 73 := FieldAt.of (by kernel_rfl)
theorem pl_74 : Places Try.prog 74 [(0, 1)] := Places.of Try.underlying74 (by kernel_rfl)
theorem ni_74 : ∃ d, Try.prog.underlying 74 = some d ∧ ∀ k, d ≠ .int k := notInt_of Try.underlying74 rfl
theorem ag_75 : IsAgg Try.prog 75 := IsAgg.of Try.underlying75 rfl
theorem ti_75 : TyInfo Try.prog 75 1 24 [.slice none 0 0] := TyInfo.of (by kernel_rfl)
theorem ts_75 : TySize Try.prog 75 1 := ti_75.size
theorem fa_75_0 : FieldAt Try.prog 75 0 0 73 := FieldAt.of (by kernel_rfl)
theorem pl_75 : Places Try.prog 75 [(0, 1)] := Places.of Try.underlying75 (by kernel_rfl)
theorem ni_75 : ∃ d, Try.prog.underlying 75 = some d ∧ ∀ k, d ≠ .int k := notInt_of Try.underlying75 rfl
theorem sc_76 : Scalar Try.prog 76 := Scalar.of Try.underlying76 rfl
theorem ti_76 : TyInfo Try.prog 76 1 8 [.nilFunc] := TyInfo.of (by kernel_rfl)
theorem ts_76 : TySize Try.prog 76 1 := ti_76.size
theorem ni_76 : ∃ d, Try.prog.underlying 76 = some d ∧ ∀ k, d ≠ .int k := notInt_of Try.underlying76 rfl
theorem sc_77 : Scalar Try.prog 77 := Scalar.of Try.underlying77 rfl
theorem ti_77 : TyInfo Try.prog 77 1 8 [.nilFunc] := TyInfo.of (by kernel_rfl)
theorem ts_77 : TySize Try.prog 77 1 := ti_77.size
theorem ni_77 : ∃ d, Try.prog.underlying 77 = some d ∧ ∀ k, d ≠ .int k := notInt_of Try.underlying77 rfl
theorem sc_78 : Scalar Try.prog 78 := Scalar.of Try.underlying78 rfl
theorem ti_78 : TyInfo Try.prog 78 1 8 [.nilFunc] := TyInfo.of (by kernel_rfl)
theorem ts_78 : TySize Try.prog 78 1 := ti_78.size
theorem ni_78 : ∃ d, Try.prog.underlying 78 = some d ∧ ∀ k, d ≠ .int k := notInt_of Try.underlying78 rfl
theorem sc_79 : Scalar Try.prog 79 := Scalar.of Try.underlying79 rfl
theorem ti_79 : TyInfo Try.prog 79 1 8 [.nilFunc] := TyInfo.of (by kernel_rfl)
theorem ts_79 : TySize Try.prog 79 1 := ti_79.size
theorem ni_79 : ∃ d, Try.prog.underlying 79 = some d ∧ ∀ k, d ≠ .int k := notInt_of Try.underlying79 rfl
theorem sc_80 : Scalar Try.prog 80 := Scalar.of Try.underlying80 rfl
theorem ti_80 : TyInfo Try.prog 80 1 8 [.nilFunc] := TyInfo.of (by kernel_rfl)
theorem ts_80 : TySize Try.prog 80 1 := ti_80.size
theorem ni_80 : ∃ d, Try.prog.underlying 80 = some d ∧ ∀ k, d ≠ .int k := notInt_of Try.underlying80 rfl
theorem sc_81 : Scalar Try.prog 81 := Scalar.of Try.underlying81 rfl
theorem ti_81 : TyInfo Try.prog 81 1 8 [.nilFunc] := TyInfo.of (by kernel_rfl)
theorem ts_81 : TySize Try.prog 81 1 := ti_81.size
theorem ni_81 : ∃ d, Try.prog.underlying 81 = some d ∧ ∀ k, d ≠ .int k := notInt_of Try.underlying81 rfl
theorem sc_82 : Scalar Try.prog 82 := Scalar.of Try.underlying82 rfl
theorem ti_82 : TyInfo Try.prog 82 1 8 [.map none] := TyInfo.of (by kernel_rfl)
theorem ts_82 : TySize Try.prog 82 1 := ti_82.size
theorem ni_82 : ∃ d, Try.prog.underlying 82 = some d ∧ ∀ k, d ≠ .int k := notInt_of Try.underlying82 rfl
theorem sc_83 : Scalar Try.prog 83 := Scalar.of Try.underlying83 rfl
theorem ti_83 : TyInfo Try.prog 83 1 24 [.slice none 0 0] := TyInfo.of (by kernel_rfl)
theorem ts_83 : TySize Try.prog 83 1 := ti_83.size
theorem ni_83 : ∃ d, Try.prog.underlying 83 = some d ∧ ∀ k, d ≠ .int k := notInt_of Try.underlying83 rfl
theorem ag_84 : IsAgg Try.prog 84 := IsAgg.of Try.underlying84 rfl
theorem ti_84 : TyInfo Try.prog 84 3 16 [.int .i64 0, .int .u32 0, .int .u32 0] := TyInfo.of (by kernel_rfl)
theorem ts_84 : TySize Try.prog 84 3 := ti_84.size
theorem fa_84_0 : FieldAt Try.prog 84 0 0 3 := FieldAt.of (by kernel_rfl)
theorem fa_84_1 : FieldAt Try.prog 84 1 1 48 := FieldAt.of (by kernel_rfl)
theorem fa_84_2 : FieldAt Try.prog 84 2 2 48 := FieldAt.of (by kernel_rfl)
theorem pl_84 : Places Try.prog 84 [(0, 1), (1, 1), (2, 1)] := Places.of Try.underlying84 (by kernel_rfl)
theorem ni_84 : ∃ d, Try.prog.underlying 84 = some d ∧ ∀ k, d ≠ .int k := notInt_of Try.underlying84 rfl
theorem ag_85 : IsAgg Try.prog 85 := IsAgg.of Try.underlying85 rfl
theorem ti_85 : TyInfo Try.prog 85 3 16 [.int .i64 0, .int .u32 0, .int .u32 0] := TyInfo.of (by kernel_rfl)
theorem ts_85 : TySize Try.prog 85 3 := ti_85.size
theorem fa_85_0 : FieldAt Try.prog 85 0 0 3 := FieldAt.of (by kernel_rfl)
theorem fa_85_1 : FieldAt Try.prog 85 1 1 48 := FieldAt.of (by kernel_rfl)
theorem fa_85_2 : FieldAt Try.prog 85 2 2 48 := FieldAt.of (by kernel_rfl)
theorem pl_85 : Places Try.prog 85 [(0, 1), (1, 1), (2, 1)] := Places.of Try.underlying85 (by kernel_rfl)
theorem ni_85 : ∃ d, Try.prog.underlying 85 = some d ∧ ∀ k, d ≠ .int k := notInt_of Try.underlying85 rfl
theorem sc_87 : Scalar Try.prog 87 := Scalar.of Try.underlying87 rfl
theorem ti_87 : TyInfo Try.prog 87 1 8 [.nilFunc] := TyInfo.of (by kernel_rfl)
theorem ts_87 : TySize Try.prog 87 1 := ti_87.size
theorem ni_87 : ∃ d, Try.prog.underlying 87 = some d ∧ ∀ k, d ≠ .int k := notInt_of Try.underlying87 rfl
theorem sc_88 : Scalar Try.prog 88 := Scalar.of Try.underlying88 rfl
theorem ti_88 : TyInfo Try.prog 88 1 8 [.nilFunc] := TyInfo.of (by kernel_rfl)
theorem ts_88 : TySize Try.prog 88 1 := ti_88.size
theorem ni_88 : ∃ d, Try.prog.underlying 88 = some d ∧ ∀ k, d ≠ .int k := notInt_of Try.underlying88 rfl
theorem sc_89 : Scalar Try.prog 89 := Scalar.of Try.underlying89 rfl
theorem ti_89 : TyInfo Try.prog 89 1 8 [.nilFunc] := TyInfo.of (by kernel_rfl)
theorem ts_89 : TySize Try.prog 89 1 := ti_89.size
theorem ni_89 : ∃ d, Try.prog.underlying 89 = some d ∧ ∀ k, d ≠ .int k := notInt_of Try.underlying89 rfl
theorem sc_90 : Scalar Try.prog 90 := Scalar.of Try.underlying90 rfl
theorem ti_90 : TyInfo Try.prog 90 1 8 [.nilFunc] := TyInfo.of (by kernel_rfl)
theorem ts_90 : TySize Try.prog 90 1 := ti_90.size
theorem ni_90 : ∃ d, Try.prog.underlying 90 = some d ∧ ∀ k, d ≠ .int k := notInt_of Try.underlying90 rfl
theorem sc_92 : Scalar Try.prog 92 := Scalar.of Try.underlying92 rfl
theorem ti_92 : TyInfo Try.prog 92 1 8 [.nilFunc] := TyInfo.of (by kernel_rfl)
theorem ts_92 : TySize Try.prog 92 1 := ti_92.size
theorem ni_92 : ∃ d, Try.prog.underlying 92 = some d ∧ ∀ k, d ≠ .int k := notInt_of Try.underlying92 rfl
theorem sc_93 : Scalar Try.prog 93 := Scalar.of Try.underlying93 rfl
theorem ti_93 : TyInfo Try.prog 93 1 8 [.int .u64 0] := TyInfo.of (by kernel_rfl)
theorem ts_93 : TySize Try.prog 93 1 := ti_93.size
theorem sc_94 : Scalar Try.prog 94 := Scalar.of Try.underlying94 rfl
theorem ti_94 : TyInfo Try.prog 94 1 8 [.nilFunc] := TyInfo.of (by kernel_rfl)
theorem ts_94 : TySize Try.prog 94 1 := ti_94.size
theorem ni_94 : ∃ d, Try.prog.underlying 94 = some d ∧ ∀ k, d ≠ .int k := notInt_of Try.underlying94 rfl
theorem sc_96 : Scalar Try.prog 96 := Scalar.of Try.underlying96 rfl
theorem ti_96 : TyInfo Try.prog 96 1 8 [.nilFunc] := TyInfo.of (by kernel_rfl)
theorem ts_96 : TySize Try.prog 96 1 := ti_96.size
theorem ni_96 : ∃ d, Try.prog.underlying 96 = some d ∧ ∀ k, d ≠ .int k := notInt_of Try.underlying96 rfl
theorem sc_97 : Scalar Try.prog 97 := Scalar.of Try.underlying97 rfl
theorem ti_97 : TyInfo Try.prog 97 1 8 [.nilFunc] := TyInfo.of (by kernel_rfl)
theorem ts_97 : TySize Try.prog 97 1 := ti_97.size
theorem ni_97 : ∃ d, Try.prog.underlying 97 = some d ∧ ∀ k, d ≠ .int k := notInt_of Try.underlying97 rfl
theorem sc_98 : Scalar Try.prog 98 := Scalar.of Try.underlying98 rfl
theorem ti_98 : TyInfo Try.prog 98 1 8 [.nilFunc] := TyInfo.of (by kernel_rfl)
theorem ts_98 : TySize Try.prog 98 1 := ti_98.size
theorem ni_98 : ∃ d, Try.prog.underlying 98 = some d ∧ ∀ k, d ≠ .int k := notInt_of Try.underlying98 rfl
theorem sc_99 : Scalar Try.prog 99 := Scalar.of Try.underlying99 rfl
theorem ti_99 : TyInfo Try.prog 99 1 8 [.nilFunc] := TyInfo.of (by kernel_rfl)
theorem ts_99 : TySize Try.prog 99 1 := ti_99.size
theorem ni_99 : ∃ d, Try.prog.underlying 99 = some d ∧ ∀ k, d ≠ .int k := notInt_of Try.underlying99 rfl
theorem sc_100 : Scalar Try.prog 100 := Scalar.of Try.underlying100 rfl
theorem ti_100 : TyInfo Try.prog 100 1 8 [.nilFunc] := TyInfo.of (by kernel_rfl)
theorem ts_100 : TySize Try.prog 100 1 := ti_100.size
theorem ni_100 : ∃ d, Try.prog.underlying 100 = some d ∧ ∀ k, d ≠ .int k := notInt_of Try.underlying100 rfl
theorem sc_101 : Scalar Try.prog 101 := Scalar.of Try.underlying101 rfl
theorem ti_101 : TyInfo Try.prog 101 1 8 [.nilFunc] := TyInfo.of (by kernel_rfl)
theorem ts_101 : TySize Try.prog 101 1 := ti_101.size
theorem ni_101 : ∃ d, Try.prog.underlying 101 = some d ∧ ∀ k, d ≠ .int k := notInt_of Try.underlying101 rfl
theorem sc_102 : Scalar Try.prog 102 := Scalar.of Try.underlying102 rfl
theorem ti_102 : TyInfo Try.prog 102 1 24 [.slice none 0 0] := TyInfo.of (by kernel_rfl)
theorem ts_102 : TySize Try.prog 102 1 := ti_102.size
theorem ni_102 : ∃ d, Try.prog.underlying 102 = some d ∧ ∀ k, d ≠ .int k := notInt_of Try.underlying102 rfl
theorem sc_103 : Scalar Try.prog 103 := Scalar.of Try.underlying103 rfl
theorem ti_103 : TyInfo Try.prog 103 1 8 [.pointer none] := TyInfo.of (by kernel_rfl)
theorem ts_103 : TySize Try.prog 103 1 := ti_103.size
theorem ni_103 : ∃ d, Try.prog.underlying 103 = some d ∧ ∀ k, d ≠ .int k := notInt_of Try.underlying103 rfl
theorem sc_104 : Scalar Try.prog 104 := Scalar.of Try.underlying104 rfl
theorem ti_104 : TyInfo Try.prog 104 1 24 [.slice none 0 0] := TyInfo.of (by kernel_rfl)
theorem ts_104 : TySize Try.prog 104 1 := ti_104.size
theorem ni_104 : ∃ d, Try.prog.underlying 104 = some d ∧ ∀ k, d ≠ .int k := notInt_of Try.underlying104 rfl
theorem sc_105 : Scalar Try.prog 105 := Scalar.of Try.underlying105 rfl
theorem ti_105 : TyInfo Try.prog 105 1 8 [.nilFunc] := TyInfo.of (by kernel_rfl)
theorem ts_105 : TySize Try.prog 105 1 := ti_105.size
theorem ni_105 : ∃ d, Try.prog.underlying 105 = some d ∧ ∀ k, d ≠ .int k := notInt_of Try.underlying105 rfl
theorem sc_106 : Scalar Try.prog 106 := Scalar.of Try.underlying106 rfl
theorem ti_106 : TyInfo Try.prog 106 1 8 [.int .i64 0] := TyInfo.of (by kernel_rfl)
theorem ts_106 : TySize Try.prog 106 1 := ti_106.size
theorem sc_108 : Scalar Try.prog 108 := Scalar.of Try.underlying108 rfl
theorem ti_108 : TyInfo Try.prog 108 1 8 [.nilFunc] := TyInfo.of (by kernel_rfl)
theorem ts_108 : TySize Try.prog 108 1 := ti_108.size
theorem ni_108 : ∃ d, Try.prog.underlying 108 = some d ∧ ∀ k, d ≠ .int k := notInt_of Try.underlying108 rfl
theorem sc_109 : Scalar Try.prog 109 := Scalar.of Try.underlying109 rfl
theorem ti_109 : TyInfo Try.prog 109 1 8 [.nilFunc] := TyInfo.of (by kernel_rfl)
theorem ts_109 : TySize Try.prog 109 1 := ti_109.size
theorem ni_109 : ∃ d, Try.prog.underlying 109 = some d ∧ ∀ k, d ≠ .int k := notInt_of Try.underlying109 rfl
theorem sc_110 : Scalar Try.prog 110 := Scalar.of Try.underlying110 rfl
theorem ti_110 : TyInfo Try.prog 110 1 8 [.nilFunc] := TyInfo.of (by kernel_rfl)
theorem ts_110 : TySize Try.prog 110 1 := ti_110.size
theorem ni_110 : ∃ d, Try.prog.underlying 110 = some d ∧ ∀ k, d ≠ .int k := notInt_of Try.underlying110 rfl
theorem sc_112 : Scalar Try.prog 112 := Scalar.of Try.underlying112 rfl
theorem ti_112 : TyInfo Try.prog 112 1 8 [.nilFunc] := TyInfo.of (by kernel_rfl)
theorem ts_112 : TySize Try.prog 112 1 := ti_112.size
theorem ni_112 : ∃ d, Try.prog.underlying 112 = some d ∧ ∀ k, d ≠ .int k := notInt_of Try.underlying112 rfl
theorem sc_113 : Scalar Try.prog 113 := Scalar.of Try.underlying113 rfl
theorem ti_113 : TyInfo Try.prog 113 1 8 [.nilFunc] := TyInfo.of (by kernel_rfl)
theorem ts_113 : TySize Try.prog 113 1 := ti_113.size
theorem ni_113 : ∃ d, Try.prog.underlying 113 = some d ∧ ∀ k, d ≠ .int k := notInt_of Try.underlying113 rfl
theorem sc_114 : Scalar Try.prog 114 := Scalar.of Try.underlying114 rfl
theorem ti_114 : TyInfo Try.prog 114 1 8 [.nilFunc] := TyInfo.of (by kernel_rfl)
theorem ts_114 : TySize Try.prog 114 1 := ti_114.size
theorem ni_114 : ∃ d, Try.prog.underlying 114 = some d ∧ ∀ k, d ≠ .int k := notInt_of Try.underlying114 rfl
theorem sc_115 : Scalar Try.prog 115 := Scalar.of Try.underlying115 rfl
theorem ti_115 : TyInfo Try.prog 115 1 8 [.int .u64 0] := TyInfo.of (by kernel_rfl)
theorem ts_115 : TySize Try.prog 115 1 := ti_115.size
theorem sc_116 : Scalar Try.prog 116 := Scalar.of Try.underlying116 rfl
theorem ti_116 : TyInfo Try.prog 116 1 8 [.int .u64 0] := TyInfo.of (by kernel_rfl)
theorem ts_116 : TySize Try.prog 116 1 := ti_116.size
theorem sc_117 : Scalar Try.prog 117 := Scalar.of Try.underlying117 rfl
theorem ti_117 : TyInfo Try.prog 117 1 8 [.nilFunc] := TyInfo.of (by kernel_rfl)
theorem ts_117 : TySize Try.prog 117 1 := ti_117.size
theorem ni_117 : ∃ d, Try.prog.underlying 117 = some d ∧ ∀ k, d ≠ .int k := notInt_of Try.underlying117 rfl
theorem sc_118 : Scalar Try.prog 118 := Scalar.of Try.underlying118 rfl
theorem ti_118 : TyInfo Try.prog 118 1 8 [.nilFunc] := TyInfo.of (by kernel_rfl)
theorem ts_118 : TySize Try.prog 118 1 := ti_118.size
theorem ni_118 : ∃ d, Try.prog.underlying 118 = some d ∧ ∀ k, d ≠ .int k := notInt_of Try.underlying118 rfl
theorem sc_119 : Scalar Try.prog 119 := Scalar.of Try.underlying119 rfl
theorem ti_119 : TyInfo Try.prog 119 1 8 [.nilFunc] := TyInfo.of (by kernel_rfl)
theorem ts_119 : TySize Try.prog 119 1 := ti_119.size
theorem ni_119 : ∃ d, Try.prog.underlying 119 = some d ∧ ∀ k, d ≠ .int k := notInt_of Try.underlying119 rfl
theorem sc_120 : Scalar Try.prog 120 := Scalar.of Try.underlying120 rfl
theorem ti_120 : TyInfo Try.prog 120 1 8 [.pointer none] := TyInfo.of (by kernel_rfl)
theorem ts_120 : TySize Try.prog 120 1 := ti_120.size
theorem ni_120 : ∃ d, Try.prog.underlying 120 = some d ∧ ∀ k, d ≠ .int k := notInt_of Try.underlying120 rfl
theorem sc_121 : Scalar Try.prog 121 := Scalar.of Try.underlying121 rfl
theorem ti_121 : TyInfo Try.prog 121 1 8 [.nilFunc] := TyInfo.of (by kernel_rfl)
theorem ts_121 : TySize Try.prog 121 1 := ti_121.size
theorem ni_121 : ∃ d, Try.prog.underlying 121 = some d ∧ ∀ k, d ≠ .int k := notInt_of Try.underlying121 rfl
theorem sc_122 : Scalar Try.prog 122 := Scalar.of Try.underlying122 rfl
theorem ti_122 : TyInfo Try.prog 122 1 8 [.pointer none] := TyInfo.of (by kernel_rfl)
theorem ts_122 : TySize Try.prog 122 1 := ti_122.size
theorem ni_122 : ∃ d, Try.prog.underlying 122 = some d ∧ ∀ k, d ≠ .int k := notInt_of Try.underlying122 rfl
theorem sc_124 : Scalar Try.prog 124 := Scalar.of Try.underlying124 rfl
theorem ti_124 : TyInfo Try.prog 124 1 8 [.nilFunc] := TyInfo.of (by kernel_rfl)
theorem ts_124 : TySize Try.prog 124 1 := ti_124.size
theorem ni_124 : ∃ d, Try.prog.underlying 124 = some d ∧ ∀ k, d ≠ .int k := notInt_of Try.underlying124 rfl
theorem ag_125 : IsAgg Try.prog 125 := IsAgg.of Try.underlying125 rfl
theorem ti_125 : TyInfo Try.prog 125 4 40 [.pointer none, .pointer none, .pointer none, strV []] := TyInfo.of (by kernel_rfl)
theorem ts_125 : TySize Try.prog 125 4 := ti_125.size
theorem fa_125_0 : FieldAt Try.prog 125 0 0 17 := FieldAt.of (by kernel_rfl)
theorem fa_125_1 : FieldAt Try.prog 125 1 1 17 := FieldAt.of (by kernel_rfl)
theorem fa_125_2 : FieldAt Try.prog 125 2 2 17 := FieldAt.of (by kernel_rfl)
theorem fa_125_3 : FieldAt Try.prog 125 3 3 9 := FieldAt.of (by kernel_rfl)
theorem pl_125 : Places Try.prog 125 [(0, 1), (1, 1), (2, 1), (3, 1)] := Places.of Try.underlying125 (by kernel_rfl)
theorem ni_125 : ∃ d, Try.prog.underlying 125 = some d ∧ ∀ k, d ≠ .int k := notInt_of Try.underlying125 rfl
theorem ag_126 : IsAgg Try.prog 126 := IsAgg.of Try.underlying126 rfl
theorem ti_126 : TyInfo Try.prog 126 4 40 [.pointer none, .pointer none, .pointer none, strV []] := TyInfo.of (by kernel_rfl)
theorem ts_126 : TySize Try.prog 126 4 := ti_126.size
theorem fa_126_0 : FieldAt Try.prog 126 0 0 17 := FieldAt.of (by kernel_rfl)
theorem fa_126_1 : FieldAt Try.prog 126 1 1 17 := FieldAt.of (by kernel_rfl)
theorem fa_126_2 : FieldAt Try.prog 126 2 2 17 := FieldAt.of (by kernel_rfl)
theorem fa_126_3 : FieldAt Try.prog 126 3 3 9 := FieldAt.of (by kernel_rfl)
theorem pl_126 : Places Try.prog 126 [(0, 1), (1, 1), (2, 1), (3, 1)] := Places.of Try.underlying126 (by kernel_rfl)
theorem ni_126 : ∃ d, Try.prog.underlying 126 = some d ∧ ∀ k, d ≠ .int k := notInt_of Try.underlying126 rfl
theorem ag_127 : IsAgg Try.prog 127 := IsAgg.of Try.underlying127 rfl
theorem ti_127 : TyInfo Try.prog 127 0 0 [] := TyInfo.of (by kernel_rfl)
theorem ts_127 : TySize Try.prog 127 0 := ti_127.size
theorem ni_127 : ∃ d, Try.prog.underlying 127 = some d ∧ ∀ k, d ≠ .int k := notInt_of Try.underlying127 rfl
theorem ag_128 : IsAgg Try.prog 128 := IsAgg.of Try.underlying128 rfl
theorem ti_128 : TyInfo Try.prog 128 0 0 [] := TyInfo.of (by kernel_rfl)
theorem ts_128 : TySize Try.prog 128 0 := ti_128.size
theorem pl_128 : Places Try.prog 128 [(0, 0)] := Places.of Try.underlying128 (by kernel_rfl)
theorem ni_128 : ∃ d, Try.prog.underlying 128 = some d ∧ ∀ k, d ≠ .int k := notInt_of Try.underlying128 rfl
theorem ag_129 : IsAgg Try.prog 129 := IsAgg.of Try.underlying129 rfl
theorem ti_129 : TyInfo Try.prog 129 0 0 [] := TyInfo.of (by kernel_rfl)
theorem ts_129 : TySize Try.prog 129 0 := ti_129.size
theorem pl_129 : Places Try.prog 129 [(0, 0)] := Places.of Try.underlying129 (by kernel_rfl)
theorem ni_129 : ∃ d, Try.prog.underlying 129 = some d ∧ ∀ k, d ≠ .int k := notInt_of Try.underlying129 rfl
theorem sc_130 : Scalar Try.prog 130 := Scalar.of Try.underlying130 rfl
theorem ti_130 : TyInfo Try.prog 130 1 8 [.nilFunc] := TyInfo.of (by kernel_rfl)
theorem ts_130 : TySize Try.prog 130 1 := ti_130.size
theorem ni_130 : ∃ d, Try.prog.underlying 130 = some d ∧ ∀ k, d ≠ .int k := notInt_of Try.underlying130 rfl
theorem sc_131 : Scalar Try.prog 131 := Scalar.of Try.underlying131 rfl
theorem ti_131 : TyInfo Try.prog 131 1 1 [.int .u8 0] := TyInfo.of (by kernel_rfl)
theorem ts_131 : TySize Try.prog 131 1 := ti_131.size
theorem sc_132 : Scalar Try.prog 132 := Scalar.of Try.underlying132 rfl
theorem ti_132 : TyInfo Try.prog 132 1 1 [.int .u8 0] := TyInfo.of (by kernel_rfl)
theorem ts_132 : TySize Try.prog 132 1 := ti_132.size
theorem sc_133 : Scalar Try.prog 133 := Scalar.of Try.underlying133 rfl
theorem ti_133 : TyInfo Try.prog 133 1 8 [.nilFunc] := TyInfo.of (by kernel_rfl)
theorem ts_133 : TySize Try.prog 133 1 := ti_133.size
theorem ni_133 : ∃ d, Try.prog.underlying 133 = some d ∧ ∀ k, d ≠ .int k := notInt_of Try.underlying133 rfl
theorem sc_134 : Scalar Try.prog 134 := Scalar.of Try.underlying134 rfl
theorem ti_134 : TyInfo Try.prog 134 1 8 [.pointer none] := TyInfo.of (by kernel_rfl)
theorem ts_134 : TySize Try.prog 134 1 := ti_134.size
theorem ni_134 : ∃ d, Try.prog.underlying 134 = some d ∧ ∀ k, d ≠ .int k := notInt_of Try.underlying134 rfl
theorem sc_135 : Scalar Try.prog 135 := Scalar.of Try.underlying135 rfl
theorem ti_135 : TyInfo Try.prog 135 1 4 [.int .i32 0] := TyInfo.of (by kernel_rfl)
theorem ts_135 : TySize Try.prog 135 1 := ti_135.size
theorem sc_136 : Scalar Try.prog 136 := Scalar.of Try.underlying136 rfl
theorem ti_136 : TyInfo Try.prog 136 1 4 [.int .i32 0] := TyInfo.of (by kernel_rfl)
theorem ts_136 : TySize Try.prog 136 1 := ti_136.size
theorem ag_137 : IsAgg Try.prog 137 := IsAgg.of Try.underlying137 rfl
theorem ti_137 : TyInfo Try.prog 137 11 48 [.int .u64 0, .int .u64 0, .int .u32 0, .int .u8 0, .int .u8 0, .int .u8 0, .int .u8 0, .nilFunc, .pointer none, .int .i32 0, .int .i32 0] := TyInfo.of (by kernel_rfl)
theorem ts_137 : TySize Try.prog 137 11 := ti_137.size
theorem fa_137_0 : FieldAt Try.prog 137 0 0 12 := FieldAt.of (by kernel_rfl)
theorem fa_137_1 : FieldAt Try.prog 137 1 1 12 := FieldAt.of (by kernel_rfl)
theorem fa_137_2 : FieldAt Try.prog 137 2 2 48 := FieldAt.of (by kernel_rfl)
theorem fa_137_3 : FieldAt Try.prog 137 3 3 131 := FieldAt.of (by kernel_rfl)
theorem fa_137_4 : FieldAt Try.prog 137 4 4 5 := FieldAt.of (by kernel_rfl)
theorem fa_137_5 : FieldAt Try.prog 137 5 5 5 := FieldAt.of (by kernel_rfl)
theorem fa_137_6 : FieldAt Try.prog 137 6 6 132 := FieldAt.of (by kernel_rfl)
theorem fa_137_7 : FieldAt Try.prog 137 7 7 133 := FieldAt.of (by kernel_rfl)
theorem fa_137_8 : FieldAt Try.prog 137 8 8 134 := FieldAt.of (by kernel_rfl)
theorem fa_137_9 : FieldAt Try.prog 137 9 9 135 := FieldAt.of (by kernel_rfl)
theorem fa_137_10 : FieldAt Try.prog 137 10 10 136 := FieldAt.of (by kernel_rfl)
theorem pl_137 : Places Try.prog 137 [(0, 1), (1, 1), (2, 1), (3, 1), (4, 1), (5, 1), (6, 1), (7, 1), (8, 1), (9, 1), (10, 1)] := Places.of Try.underlying137 (by kernel_rfl)
theorem ni_137 : ∃ d, Try.prog.underlying 137 = some d ∧ ∀ k, d ≠ .int k := notInt_of Try.underlying137 rfl
theorem ag_138 : IsAgg Try.prog 138 := IsAgg.of Try.underlying138 rfl
theorem ti_138 : TyInfo Try.prog 138 11 48 [.int .u64 0, .int .u64 0, .int .u32 0, .int .u8 0, .int .u8 0, .int .u8 0, .int .u8 0, .nilFunc, .pointer none, .int .i32 0, .int .i32 0] := TyInfo.of (by kernel_rfl)
theorem ts_138 : TySize Try.prog 138 11 := ti_138.size
theorem fa_138_0 : FieldAt Try.prog 138 0 0 12 := FieldAt.of (by kernel_rfl)
theorem fa_138_1 : FieldAt Try.prog 138 1 1 12 := FieldAt.of (by kernel_rfl)
theorem fa_138_2 : FieldAt Try.prog 138 2 2 48 := FieldAt.of (by kernel_rfl)
theorem fa_138_3 : FieldAt Try.prog 138 3 3 131 := FieldAt.of (by kernel_rfl)
theorem fa_138_4 : FieldAt Try.prog 138 4 4 5 := FieldAt.of (by kernel_rfl)
theorem fa_138_5 : FieldAt Try.prog 138 5 5 5 := FieldAt.of (by kernel_rfl)
theorem fa_138_6 : FieldAt Try.prog 138 6 6 132 := FieldAt.of (by kernel_rfl)
theorem fa_138_7 : FieldAt Try.prog 138 7 7 133 := FieldAt.of (by kernel_rfl)
theorem fa_138_8 : FieldAt Try.prog 138 8 8 134 := FieldAt.of (by kernel_rfl)
theorem fa_138_9 : FieldAt Try.prog 138 9 9 135 := FieldAt.of (by kernel_rfl)
theorem fa_138_10 : FieldAt Try.prog 138 10 10 136 := FieldAt.of (by kernel_rfl)
theorem pl_138 : Places Try.prog 138 [(0, 1), (1, 1), (2, 1), (3, 1), (4, 1), (5, 1), (6, 1), (7, 1), (8, 1), (9, 1), (10, 1)] := Places.of Try.underlying138 (by kernel_rfl)
theorem ni_138 : ∃ d, Try.prog.underlying 138 = some d ∧ ∀ k, d ≠ .int k := notInt_of Try.underlying138 rfl
theorem sc_139 : Scalar Try.prog 139 := Scalar.of Try.underlying139 rfl
theorem ti_139 : TyInfo Try.prog 139 1 8 [.pointer none] := TyInfo.of (by kernel_rfl)
theorem ts_139 : TySize Try.prog 139 1 := ti_139.size
theorem ni_139 : ∃ d, Try.prog.underlying 139 = some d ∧ ∀ k, d ≠ .int k := notInt_of Try.underlying139 rfl
theorem mixed : Try.prog.follows .mixedOrders = true := by kernel_rfl
end Go.Proofs.Yticfabhcfdmbjaa
