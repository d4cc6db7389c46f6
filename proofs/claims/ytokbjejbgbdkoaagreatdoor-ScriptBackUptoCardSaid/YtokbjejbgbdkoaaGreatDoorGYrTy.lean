/-
 Facts on the types of the program, each one closed equation. By program.
-/
import Derived.Test.YtokbjejbgbdkoaaGreatDoorGSl16
import Derived.Test.YtokbjejbgbdkoaaGreatDoorProg
import Derived.KernelRfl
import Derived.Test.YtokbjejbgbdkoaaGreatDoorGSl9
set_option linter.unusedVariables false
set_option linter.unusedSimpArgs false
namespace Go.Proofs.YtokbjejbgbdkoaaGreatDoor
open Go Go.Sl Go.Proofs
theorem sc_3 : Scalar Tryz.prog 3 := Scalar.of Tryz.underlying3 rfl
theorem ti_3 : TyInfo Tryz.prog 3 1 8 [.int .i64 0] := TyInfo.of (by kernel_rfl)
theorem ts_3 : TySize Tryz.prog 3 1 := ti_3.size
theorem sc_5 : Scalar Tryz.prog 5 := Scalar.of Tryz.underlying5 rfl
theorem ti_5 : TyInfo Tryz.prog 5 1 1 [.int .u8 0] := TyInfo.of (by kernel_rfl)
theorem ts_5 : TySize Tryz.prog 5 1 := ti_5.size
theorem sc_9 : Scalar Tryz.prog 9 := Scalar.of Tryz.underlying9 rfl
theorem ti_9 : TyInfo Tryz.prog 9 1 16 [strV []] := TyInfo.of (by kernel_rfl)
theorem ts_9 : TySize Tryz.prog 9 1 := ti_9.size
theorem ni_9 : ∃ d, Tryz.prog.underlying 9 = some d ∧ ∀ k, d ≠ .int k := notInt_of Tryz.underlying9 rfl
theorem ni_23 : ∃ d, Tryz.prog.underlying 23 = some d ∧ ∀ k, d ≠ .int k := notInt_of Tryz.underlying23 rfl
theorem ag_31 : IsAgg Tryz.prog 31 := IsAgg.of Tryz.underlying31 rfl
theorem ti_31 : TyInfo Tryz.prog 31 4 40 [.int .u8 0, .int .i64 0, .int .i64 0, strV []] := TyInfo.of (by kernel_rfl)
theorem ts_31 : TySize Tryz.prog 31 4 := ti_31.size
theorem fa_31_0 : FieldAt Tryz.prog 31 0 0 5 := FieldAt.of (by kernel_rfl)
theorem fa_31_1 : FieldAt Tryz.prog 31 1 1 3 := FieldAt.of (by kernel_rfl)
theorem fa_31_2 : FieldAt Tryz.prog 31 2 2 3 := FieldAt.of (by kernel_rfl)
theorem fa_31_3 : FieldAt Tryz.prog 31 3 3 9 := FieldAt.of (by kernel_rfl)
theorem pl_31 : Places Tryz.prog 31 [(0, 1), (1, 1), (2, 1), (3, 1)] := Places.of Tryz.underlying31 (by kernel_rfl)
theorem sc_35 : Scalar Tryz.prog 35 := Scalar.of Tryz.underlying35 rfl
theorem ti_35 : TyInfo Tryz.prog 35 1 16 [.nilIface] := TyInfo.of (by kernel_rfl)
theorem ts_35 : TySize Tryz.prog 35 1 := ti_35.size
theorem ag_42 : IsAgg Tryz.prog 42 := IsAgg.of Tryz.underlying42 rfl
theorem ti_42 : TyInfo Tryz.prog 42 4 40 [.int .i64 0, .int .i64 0, .int .i64 0, strV []] := TyInfo.of (by kernel_rfl)
theorem ts_42 : TySize Tryz.prog 42 4 := ti_42.size
theorem fa_42_0 : FieldAt Tryz.prog 42 0 0 3 := FieldAt.of (by kernel_rfl)
theorem fa_42_1 : FieldAt Tryz.prog 42 1 1 3 := FieldAt.of (by kernel_rfl)
theorem fa_42_2 : FieldAt Tryz.prog 42 2 2 3 := FieldAt.of (by kernel_rfl)
theorem fa_42_3 : FieldAt Tryz.prog 42 3 3 9 := FieldAt.of (by kernel_rfl)
theorem ti_46 : TyInfo Tryz.prog 46 3 32 [.int .i64 0, .int .i64 0, strV []] := TyInfo.of (by kernel_rfl)
theorem ts_46 : TySize Tryz.prog 46 3 := ti_46.size
theorem fa_46_0 : FieldAt Tryz.prog 46 0 0 3 := FieldAt.of (by kernel_rfl)
theorem fa_46_1 : FieldAt Tryz.prog 46 1 1 3 := FieldAt.of (by kernel_rfl)
theorem fa_46_2 : FieldAt Tryz.prog 46 2 2 9 := FieldAt.of (by kernel_rfl)
theorem pl_46 : Places Tryz.prog 46 [(0, 1), (1, 1), (2, 1)] := Places.of Tryz.underlying46 (by kernel_rfl)
theorem ti_51 : TyInfo Tryz.prog 51 2 16 [.int .i64 0, .int .i64 0] := TyInfo.of (by kernel_rfl)
theorem ts_51 : TySize Tryz.prog 51 2 := ti_51.size
theorem fa_51_0 : FieldAt Tryz.prog 51 0 0 3 := FieldAt.of (by kernel_rfl)
theorem fa_51_1 : FieldAt Tryz.prog 51 1 1 3 := FieldAt.of (by kernel_rfl)
theorem pl_51 : Places Tryz.prog 51 [(0, 1), (1, 1)] := Places.of Tryz.underlying51 (by kernel_rfl)
theorem ti_52 : TyInfo Tryz.prog 52 2 16 [.int .i64 0, .int .i64 0] := TyInfo.of (by kernel_rfl)
theorem ts_52 : TySize Tryz.prog 52 2 := ti_52.size
theorem fa_52_0 : FieldAt Tryz.prog 52 0 0 3 := FieldAt.of (by kernel_rfl)
theorem fa_52_1 : FieldAt Tryz.prog 52 1 1 3 := FieldAt.of (by kernel_rfl)
theorem pl_52 : Places Tryz.prog 52 [(0, 1), (1, 1)] := Places.of Tryz.underlying52 (by kernel_rfl)
theorem ti_54 : TyInfo Tryz.prog 54 1 8 [.int .i64 0] := TyInfo.of (by kernel_rfl)
theorem ts_54 : TySize Tryz.prog 54 1 := ti_54.size
theorem fa_54_0 : FieldAt Tryz.prog 54 0 0 3 := FieldAt.of (by kernel_rfl)
theorem pl_54 : Places Tryz.prog 54 [(0, 1)] := Places.of Tryz.underlying54 (by kernel_rfl)
theorem ti_55 : TyInfo Tryz.prog 55 1 8 [.int .i64 0] := TyInfo.of (by kernel_rfl)
theorem ts_55 : TySize Tryz.prog 55 1 := ti_55.size
theorem fa_55_0 : FieldAt Tryz.prog 55 0 0 3 := FieldAt.of (by kernel_rfl)
theorem pl_55 : Places Tryz.prog 55 [(0, 1)] := Places.of Tryz.underlying55 (by kernel_rfl)
theorem ti_56 : TyInfo Tryz.prog 56 1 8 [.int .i64 0] := TyInfo.of (by kernel_rfl)
theorem ts_56 : TySize Tryz.prog 56 1 := ti_56.size
theorem fa_56_0 : FieldAt Tryz.prog 56 0 0 3 := FieldAt.of (by kernel_rfl)
theorem pl_56 : Places Tryz.prog 56 [(0, 1)] := Places.of Tryz.underlying56 (by kernel_rfl)
theorem ti_58 : TyInfo Tryz.prog 58 0 0 [] := TyInfo.of (by kernel_rfl)
theorem ts_58 : TySize Tryz.prog 58 0 := ti_58.size
theorem pl_58 : Places Tryz.prog 58 [] := Places.of Tryz.underlying58 (by kernel_rfl)
theorem ti_59 : TyInfo Tryz.prog 59 0 0 [] := TyInfo.of (by kernel_rfl)
theorem ts_59 : TySize Tryz.prog 59 0 := ti_59.size
theorem pl_59 : Places Tryz.prog 59 [] := Places.of Tryz.underlying59 (by kernel_rfl)
theorem sc_67 : Scalar Tryz.prog 67 := Scalar.of Tryz.underlying67 rfl
theorem ti_67 : TyInfo Tryz.prog 67 1 8 [.pointer none] := TyInfo.of (by kernel_rfl)
theorem ts_67 : TySize Tryz.prog 67 1 := ti_67.size
theorem sc_68 : Scalar Tryz.prog 68 := Scalar.of Tryz.underlying68 rfl
theorem ti_68 : TyInfo Tryz.prog 68 1 24 [.slice none 0 0] := TyInfo.of (by kernel_rfl)
theorem ts_68 : TySize Tryz.prog 68 1 := ti_68.size
theorem ni_68 : ∃ d, Tryz.prog.underlying 68 = some d ∧ ∀ k, d ≠ .int k := notInt_of Tryz.underlying68 rfl
theorem ti_70 : TyInfo Tryz.prog 70 2 32 [.pointer none, .slice none 0 0] := TyInfo.of (by kernel_rfl)
theorem ts_70 : TySize Tryz.prog 70 2 := ti_70.size
theorem fa_70_0 : FieldAt Tryz.prog 70 0 0 67 := FieldAt.of (by kernel_rfl)
theorem fa_70_1 : FieldAt Tryz.prog 70 1 1 68 := FieldAt.of (by kernel_rfl)
theorem ni_77 : ∃ d, Tryz.prog.underlying 77 = some d ∧ ∀ k, d ≠ .int k := notInt_of Tryz.underlying77 rfl
theorem mixed : Tryz.prog.follows .mixedOrders = true := by kernel_rfl
end Go.Proofs.YtokbjejbgbdkoaaGreatDoor
namespace Go.Proofs.YtokbjejbgbdkoaaGreatDoor
open Go Go.Sl Go.Proofs
set_option maxRecDepth 20000
theorem CopyCheck_fresh (b : Nat) (sv : Value) : Ctr Tryz.prog 33 [ptr b 0] [row b 70 [.pointer none, sv]] (fun w Ps => w = .tuple #[] ∧ Ps = [row b 70 [ptr b 0, sv]]) := by
 refine Ctr.of_body Tryz.func33 rfl (by kernel_rfl) Tryz.ntmps33 rfl rfl (fun Fr => ?_)
 refine T.seq fun K1 hK1 => ?_
 refine T.region (l := [0, 1, 2, 3, 4]) rfl ?_
 refine RN.m rfl ?_
 refine RN.p rfl (p_nilCheck rfl rfl) ?_
 refine RN.p rfl (p_fieldAddr rfl fa_70_0 rfl) ?_
 refine RN.u rfl (q_load rfl sc_67 rfl (i := 0) rfl rfl) ?_
 refine RN.p rfl (p_ptreql_nil rfl rfl rfl Tryz.underlying67) ?_
 refine RN.nil ?_
 refine hK1 _ _ ?_
 refine T.known 6 rfl (show _ = Value.bool true from rfl) ?_
 refine T.cond_t rfl ?_
 refine T.region (l := [0, 1, 2, 3, 4, 5, 6, 7]) rfl ?_
 refine RN.m rfl ?_
 refine RN.m rfl ?_
 refine RN.u rfl (q_toUnsafe rfl Tryz.underlying67 Tryz.underlying95 ts_70 (by decide) rfl (i := 0) rfl (by simp)) ?_
 refine RN.p rfl (p_noEsc rfl Tryz.func41 (by kernel_rfl) rfl (by kernel_rfl) (by kernel_rfl) rfl) ?_
 refine RN.u rfl (q_fromUnsafe rfl Tryz.underlying95 Tryz.underlying67 ts_70 rfl (i := 0) rfl (by kernel_rfl)) ?_
 refine RN.p rfl (p_nilCheck rfl rfl) ?_
 refine RN.p rfl (p_fieldAddr rfl fa_70_0 rfl) ?_
 refine RN.EN rfl rfl rfl (e_store rfl ts_67 rfl (by conv => lhs; whnf) (by first | rfl | assumption) (i := 0) rfl (by simp)) ?_
 rintro _ _ ⟨rfl, rfl⟩
 refine RN.nil ?_
 refine bodyQ_end [row b 70 [ptr b 0, sv]] RetRun.nil ⟨rfl, rfl⟩ (Ent.refl _)

theorem CopyCheck_used (b : Nat) (sv : Value) : Ctr Tryz.prog 33 [ptr b 0] [row b 70 [ptr b 0, sv]] (fun w Ps => w = .tuple #[] ∧ Ps = [row b 70 [ptr b 0, sv]]) := by
 refine Ctr.of_body Tryz.func33 rfl (by kernel_rfl) Tryz.ntmps33 rfl rfl (fun Fr => ?_)
 refine T.seq fun K1 hK1 => ?_
 refine T.region (l := [0, 1, 2, 3, 4]) rfl ?_
 refine RN.m rfl ?_
 refine RN.p rfl (p_nilCheck rfl rfl) ?_
 refine RN.p rfl (p_fieldAddr rfl fa_70_0 rfl) ?_
 refine RN.u rfl (q_load rfl sc_67 rfl (i := 0) rfl rfl) ?_
 refine RN.p rfl (p_ptreql_nil rfl rfl rfl Tryz.underlying67) ?_
 refine RN.nil ?_
 refine hK1 _ _ ?_
 refine T.known 6 rfl (show _ = Value.bool false from rfl) ?_
 refine T.cond_f rfl ?_
 refine T.seq fun K2 hK2 => ?_
 refine T.region (l := [0, 1, 2, 3, 4, 5]) rfl ?_
 refine RN.m rfl ?_
 refine RN.p rfl (p_nilCheck rfl rfl) ?_
 refine RN.p rfl (p_fieldAddr rfl fa_70_0 rfl) ?_
 refine RN.u rfl (q_load rfl sc_67 rfl (i := 0) rfl rfl) ?_
 refine RN.m rfl ?_
 refine RN.p rfl (p_ptrneq_self rfl rfl rfl Tryz.underlying67 ts_70) ?_
 refine RN.nil ?_
 refine hK2 _ _ ?_
 refine T.known 19 rfl (show _ = Value.bool false from rfl) ?_
 refine T.cond_f rfl ?_
 refine T.skip ?_
 refine bodyQ_end [row b 70 [ptr b 0, sv]] RetRun.nil ⟨rfl, rfl⟩ (Ent.refl _)

theorem CopyCheck_spec (b : Nat) (p sv : Value) (hp : p = .pointer none ∨ p = ptr b 0) : Ctr Tryz.prog 33 [ptr b 0] [row b 70 [p, sv]] (fun w Ps => w = .tuple #[] ∧ Ps = [row b 70 [ptr b 0, sv]]) := by
 rcases hp with rfl | rfl
 · exact CopyCheck_fresh b sv
 · exact CopyCheck_used b sv
theorem WriteX_spec (b : Nat) (p sv : Value) (l s : List UInt8) (hp : p = .pointer none ∨ p = ptr b 0) (h1 : sv.oneCell' = true) (hb : l.length + s.length ≤ 1000000000) : Ctr Tryz.prog 20 [ptr b 0, strV s] [row b 70 [p, sv], vec 5 1 sv l.length (l.map u8V)] (fun w Ps => w = .tuple #[intV s.length, .nilIface] ∧ ∃ v, v.oneCell' = true ∧ Ps = [row b 70 [ptr b 0, v], vec 5 1 v (l.length + s.length) (l.map u8V ++ s.map u8V)]) := by
 refine Ctr.of_body Tryz.func20 rfl (by kernel_rfl) Tryz.ntmps20 rfl rfl (fun Fr => ?_)
 refine T.seq fun K1 hK1 => ?_
 refine T.region (l := [0, 1]) rfl ?_
 refine RN.a rfl ?_
 refine RN.a rfl ?_
 refine RN.nil ?_
 refine hK1 _ _ ?_
 refine T.seq fun K2 hK2 => ?_
 refine T.region (l := [0, 1]) rfl ?_
 refine RN.m rfl ?_
 refine RN.C [0] rfl rfl rfl rfl (c_call rfl rfl) (CopyCheck_spec b p sv hp) rfl ?_
 rintro _ _ ⟨rfl, rfl⟩
 refine RN.nil ?_
 refine hK2 _ _ ?_
 refine T.seq fun K3 hK3 => ?_
 refine T.region (l := [0, 1, 2, 3, 4, 5, 6, 7, 8, 9]) rfl ?_
 refine RN.m rfl ?_
 refine RN.m rfl ?_
 refine RN.p rfl (p_nilCheck rfl rfl) ?_
 refine RN.p rfl (p_fieldAddr rfl fa_70_1 rfl) ?_
 refine RN.u rfl (q_load rfl sc_68 rfl (i := 0) rfl rfl) ?_
 refine RN.m rfl ?_
 refine RN.E rfl rfl rfl rfl (e_append rfl Tryz.underlying68 ni_9 ti_5 rfl rfl (i := 1) rfl src_str one_u8 (by omega)) ?_
 rintro v14 _ ⟨hv14, rfl⟩
 refine RN.p rfl (p_nilCheck rfl rfl) ?_
 refine RN.p rfl (p_fieldAddr rfl fa_70_1 rfl) ?_
 refine RN.EN rfl rfl rfl (e_store rfl ts_68 rfl (by conv => lhs; whnf) (by first | rfl | assumption) (i := 0) rfl (by simp)) ?_
 rintro _ _ ⟨rfl, rfl⟩
 refine RN.nil ?_
 refine hK3 _ _ ?_
 refine T.seq fun K4 hK4 => ?_
 refine T.region (l := [0, 1, 2, 3]) rfl ?_
 refine RN.m rfl ?_
 refine RN.p rfl (p_len_s rfl Tryz.underlying9 rfl) ?_
 refine RN.a rfl ?_
 refine RN.a rfl ?_
 refine RN.nil ?_
 refine hK4 _ _ ?_
 refine T.ret ?_
 refine bodyQ_ret [row b 70 [ptr b 0, v14], vec 5 1 v14 (l.length + s.length) (l.map u8V ++ s.map u8V)] (RetRun.tmp (RetRun.tmp RetRun.nil)) ⟨rfl, v14, hv14, rfl⟩ (Ent.refl _)

theorem WriteS_spec (b : Nat) (l s : List UInt8) (hs : s ≠ []) (hb : l.length + s.length ≤ 1000000000) : Ctr Tryz.prog 20 [ptr b 0, strV s] [bld 70 5 b l] (fun w Ps => w = .tuple #[intV s.length, .nilIface] ∧ Ps = [bld 70 5 b (l ++ s)]) :=
 Ctr.ofBld fun p sv h1 h2 h3 => (WriteX_spec b p sv l s h1 h2 hb).mono (Ent.refl _) fun w Ps h => by
  obtain ⟨rfl, v, hv, rfl⟩ := h
  exact ⟨_, ⟨rfl, rfl⟩, bld_in (.inr rfl) hv (fun g => absurd (List.append_eq_nil_iff.1 g).2 hs) (by rw [List.length_append]) (by rw [List.map_append])⟩
theorem StringX_spec (b : Nat) (p : Value) (n cap : Nat) (a : Option Addr) (sv : Value) (l : List UInt8) (hsv : sv = .slice a n cap) (hn : n = l.length) (hc : a.isSome = true → cap ≠ 0) (h1 : sv.oneCell' = true) (h3 : l = [] → sv = .slice none 0 0) (hb : l.length ≤ 1000000000) : Ctr Tryz.prog 21 [ptr b 0] [row b 70 [p, sv], vec 5 1 sv l.length (l.map u8V)] (fun w Ps => w = strV l ∧ Ps = []) := by
 refine Ctr.of_body Tryz.func21 rfl (by kernel_rfl) Tryz.ntmps21 rfl rfl (fun Fr => ?_)
 subst hsv hn
 refine T.seq fun K1 hK1 => ?_
 refine T.region (l := [0]) rfl ?_
 refine RN.a rfl ?_
 refine RN.nil ?_
 refine hK1 _ _ ?_
 refine T.seq fun K2 hK2 => ?_
 refine T.regionD (z := 12) (Bs := [row b 70 [p, .slice a l.length cap]]) (l := [(0, .pure), (1, .pure), (2, .pure), (3, .load), (4, .pure), (5, .pure), (6, .pure), (7, .pure), (8, .load), (9, .pure), (10, .eff), (11, .pure)]) mixed (by kernel_rfl) (by first | exact Ent.refl _ | exact Ent.pull_drop (is := [0]) rfl | exact Ent.pull_drop (is := [1]) rfl | exact Ent.pull_drop (is := [2]) rfl | exact Ent.pull_drop (is := [3]) rfl | exact Ent.pull_drop (is := [4]) rfl | exact Ent.pull_drop (is := [5]) rfl | exact Ent.pull_drop (is := [6]) rfl | exact Ent.pull_drop (is := [7]) rfl) ?_
 refine RD.n rfl (p_move rfl (by conv => lhs; whnf)) ?_
 refine RD.n rfl (p_nilCheck rfl rfl) ?_
 refine RD.n rfl (p_fieldAddr rfl fa_70_1 rfl) ?_
 refine RD.qq rfl rfl rfl rfl (q_load rfl sc_68 rfl (i := 0) rfl rfl) (by first | exact Ent.refl _ | exact Ent.pull_drop (is := [0]) rfl | exact Ent.pull_drop (is := [1]) rfl | exact Ent.pull_drop (is := [2]) rfl | exact Ent.pull_drop (is := [3]) rfl | exact Ent.pull_drop (is := [4]) rfl | exact Ent.pull_drop (is := [5]) rfl | exact Ent.pull_drop (is := [6]) rfl | exact Ent.pull_drop (is := [7]) rfl) ?_
 refine RD.n rfl (p_sliceData rfl rfl hc) ?_
 refine RD.n rfl (p_move rfl (by conv => lhs; whnf)) ?_
 refine RD.n rfl (p_nilCheck rfl rfl) ?_
 refine RD.n rfl (p_fieldAddr rfl fa_70_1 rfl) ?_
 refine RD.qq rfl rfl rfl rfl (q_load rfl sc_68 rfl (i := 0) rfl rfl) (by first | exact Ent.refl _ | exact Ent.pull_drop (is := [0]) rfl | exact Ent.pull_drop (is := [1]) rfl | exact Ent.pull_drop (is := [2]) rfl | exact Ent.pull_drop (is := [3]) rfl | exact Ent.pull_drop (is := [4]) rfl | exact Ent.pull_drop (is := [5]) rfl | exact Ent.pull_drop (is := [6]) rfl | exact Ent.pull_drop (is := [7]) rfl) ?_
 refine RD.n rfl (p_len rfl Tryz.underlying68 rfl) ?_
 refine RD.E rfl rfl rfl rfl (e_unsafeString rfl Tryz.underlying87 (by kernel_rfl) rfl rfl (i := 1) rfl h3 (by omega)) (by rintro _ _ ⟨_, rfl⟩; exact .inl (Ent.pull_drop (is := [0]) rfl)) ?_
 rintro _ _ ⟨rfl, rfl⟩
 refine RD.n rfl (p_assign rfl (by conv => lhs; whnf)) ?_
 refine RD.nil ?_
 refine hK2 _ _ ?_
 refine T.ret ?_
 refine bodyQ_ret [] (RetRun.tmp RetRun.nil) ⟨rfl, rfl⟩ (Ent.pull_drop (is := [1]) rfl)

theorem StringS_spec (b : Nat) (l : List UInt8) (hb : l.length ≤ 1000000000) : Ctr Tryz.prog 21 [ptr b 0] [bld 70 5 b l] (fun w Ps => w = strV l ∧ Ps = []) :=
 ⟨(StringX_spec b (.pointer none) 0 0 none (.slice none 0 0) [] rfl rfl (fun h => by cases h) rfl (fun _ => rfl) (by decide)).1, fun W0 Fr w hs => by
  obtain ⟨p, sv, ⟨h1, h2, h3⟩, s⟩ := bld_out (L := [Fr]) hs
  have hsh : ∃ a cap, sv = .slice a l.length cap ∧ (a.isSome = true → cap ≠ 0) := (s.mono (Ent.drop _ _)).fact (fun f hf => by
   obtain ⟨_, ⟨rfl, h0⟩ | ⟨c, cap, rest, rfl, hle, _⟩⟩ := hf
   · exact ⟨none, 0, by rw [h0], fun h => by cases h⟩
   ·
    refine ⟨_, cap, rfl, fun _ hz => ?_⟩
    have hl : l = [] := List.eq_nil_of_length_eq_zero (by omega)
    have := h3 hl
    unfold slc at this
    cases this)
  obtain ⟨a, cap, hsv, hc⟩ := hsh
  exact (StringX_spec b p l.length cap a sv l hsv rfl hc h2 h3 hb).2 W0 Fr w s⟩
end Go.Proofs.YtokbjejbgbdkoaaGreatDoor
