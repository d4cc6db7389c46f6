/-
 Facts on the types of the program, each one closed equation. By program.
-/
import Derived.Test.YtokbjejbgbdkoaaDoorGSl16
import Derived.Test.YtokbjejbgbdkoaaDoorProg
import Derived.KernelRfl
import Derived.Test.YtokbjejbgbdkoaaDoorGSl9
set_option linter.unusedVariables false
set_option linter.unusedSimpArgs false
namespace Go.Proofs.YtokbjejbgbdkoaaDoor
open Go Go.Sl Go.Proofs
theorem sc_3 : Scalar Tryd.prog 3 := Scalar.of Tryd.underlying3 rfl
theorem ti_3 : TyInfo Tryd.prog 3 1 8 [.int .i64 0] := TyInfo.of (by kernel_rfl)
theorem ts_3 : TySize Tryd.prog 3 1 := ti_3.size
theorem sc_5 : Scalar Tryd.prog 5 := Scalar.of Tryd.underlying5 rfl
theorem ti_5 : TyInfo Tryd.prog 5 1 1 [.int .u8 0] := TyInfo.of (by kernel_rfl)
theorem ts_5 : TySize Tryd.prog 5 1 := ti_5.size
theorem sc_9 : Scalar Tryd.prog 9 := Scalar.of Tryd.underlying9 rfl
theorem ti_9 : TyInfo Tryd.prog 9 1 16 [strV []] := TyInfo.of (by kernel_rfl)
theorem ts_9 : TySize Tryd.prog 9 1 := ti_9.size
theorem ni_9 : ∃ d, Tryd.prog.underlying 9 = some d ∧ ∀ k, d ≠ .int k := notInt_of Tryd.underlying9 rfl
theorem ni_26 : ∃ d, Tryd.prog.underlying 26 = some d ∧ ∀ k, d ≠ .int k := notInt_of Tryd.underlying26 rfl
theorem ni_28 : ∃ d, Tryd.prog.underlying 28 = some d ∧ ∀ k, d ≠ .int k := notInt_of Tryd.underlying28 rfl
theorem ti_37 : TyInfo Tryd.prog 37 3 32 [.int .i64 0, .int .i64 0, strV []] := TyInfo.of (by kernel_rfl)
theorem fa_37_0 : FieldAt Tryd.prog 37 0 0 3 := FieldAt.of (by kernel_rfl)
theorem fa_37_1 : FieldAt Tryd.prog 37 1 1 3 := FieldAt.of (by kernel_rfl)
theorem fa_37_2 : FieldAt Tryd.prog 37 2 2 9 := FieldAt.of (by kernel_rfl)
theorem pl_37 : Places Tryd.prog 37 [(0, 1), (1, 1), (2, 1)] := Places.of Tryd.underlying37 (by kernel_rfl)
theorem sc_40 : Scalar Tryd.prog 40 := Scalar.of Tryd.underlying40 rfl
theorem ti_40 : TyInfo Tryd.prog 40 1 16 [.nilIface] := TyInfo.of (by kernel_rfl)
theorem ts_40 : TySize Tryd.prog 40 1 := ti_40.size
theorem ti_42 : TyInfo Tryd.prog 42 2 16 [.int .i64 0, .int .i64 0] := TyInfo.of (by kernel_rfl)
theorem fa_42_0 : FieldAt Tryd.prog 42 0 0 3 := FieldAt.of (by kernel_rfl)
theorem fa_42_1 : FieldAt Tryd.prog 42 1 1 3 := FieldAt.of (by kernel_rfl)
theorem pl_42 : Places Tryd.prog 42 [(0, 1), (1, 1)] := Places.of Tryd.underlying42 (by kernel_rfl)
theorem ti_43 : TyInfo Tryd.prog 43 2 16 [.int .i64 0, .int .i64 0] := TyInfo.of (by kernel_rfl)
theorem fa_43_0 : FieldAt Tryd.prog 43 0 0 3 := FieldAt.of (by kernel_rfl)
theorem fa_43_1 : FieldAt Tryd.prog 43 1 1 3 := FieldAt.of (by kernel_rfl)
theorem pl_43 : Places Tryd.prog 43 [(0, 1), (1, 1)] := Places.of Tryd.underlying43 (by kernel_rfl)
theorem ti_45 : TyInfo Tryd.prog 45 1 8 [.int .i64 0] := TyInfo.of (by kernel_rfl)
theorem fa_45_0 : FieldAt Tryd.prog 45 0 0 3 := FieldAt.of (by kernel_rfl)
theorem pl_45 : Places Tryd.prog 45 [(0, 1)] := Places.of Tryd.underlying45 (by kernel_rfl)
theorem ti_46 : TyInfo Tryd.prog 46 1 8 [.int .i64 0] := TyInfo.of (by kernel_rfl)
theorem fa_46_0 : FieldAt Tryd.prog 46 0 0 3 := FieldAt.of (by kernel_rfl)
theorem pl_46 : Places Tryd.prog 46 [(0, 1)] := Places.of Tryd.underlying46 (by kernel_rfl)
theorem ti_47 : TyInfo Tryd.prog 47 1 8 [.int .i64 0] := TyInfo.of (by kernel_rfl)
theorem fa_47_0 : FieldAt Tryd.prog 47 0 0 3 := FieldAt.of (by kernel_rfl)
theorem pl_47 : Places Tryd.prog 47 [(0, 1)] := Places.of Tryd.underlying47 (by kernel_rfl)
theorem ti_49 : TyInfo Tryd.prog 49 0 0 [] := TyInfo.of (by kernel_rfl)
theorem pl_49 : Places Tryd.prog 49 [] := Places.of Tryd.underlying49 (by kernel_rfl)
theorem ti_50 : TyInfo Tryd.prog 50 0 0 [] := TyInfo.of (by kernel_rfl)
theorem pl_50 : Places Tryd.prog 50 [] := Places.of Tryd.underlying50 (by kernel_rfl)
theorem sc_54 : Scalar Tryd.prog 54 := Scalar.of Tryd.underlying54 rfl
theorem ti_54 : TyInfo Tryd.prog 54 1 8 [.pointer none] := TyInfo.of (by kernel_rfl)
theorem ts_54 : TySize Tryd.prog 54 1 := ti_54.size
theorem sc_55 : Scalar Tryd.prog 55 := Scalar.of Tryd.underlying55 rfl
theorem ti_55 : TyInfo Tryd.prog 55 1 24 [.slice none 0 0] := TyInfo.of (by kernel_rfl)
theorem ts_55 : TySize Tryd.prog 55 1 := ti_55.size
theorem ti_57 : TyInfo Tryd.prog 57 2 32 [.pointer none, .slice none 0 0] := TyInfo.of (by kernel_rfl)
theorem ts_57 : TySize Tryd.prog 57 2 := ti_57.size
theorem fa_57_0 : FieldAt Tryd.prog 57 0 0 54 := FieldAt.of (by kernel_rfl)
theorem fa_57_1 : FieldAt Tryd.prog 57 1 1 55 := FieldAt.of (by kernel_rfl)
theorem ni_63 : ∃ d, Tryd.prog.underlying 63 = some d ∧ ∀ k, d ≠ .int k := notInt_of Tryd.underlying63 rfl
theorem mixed : Tryd.prog.follows .mixedOrders = true := by kernel_rfl
end Go.Proofs.YtokbjejbgbdkoaaDoor
namespace Go.Proofs.YtokbjejbgbdkoaaDoor
open Go Go.Sl Go.Proofs
set_option maxRecDepth 20000
theorem CopyCheck_fresh (b : Nat) (sv : Value) : Ctr Tryd.prog 21 [ptr b 0] [row b 57 [.pointer none, sv]] (fun w Ps => w = .tuple #[] ∧ Ps = [row b 57 [ptr b 0, sv]]) := by
 refine Ctr.of_body Tryd.func21 rfl (by kernel_rfl) Tryd.ntmps21 rfl rfl (fun Fr => ?_)
 refine T.seq fun K1 hK1 => ?_
 refine T.region (l := [0, 1, 2, 3, 4]) rfl ?_
 refine RN.m rfl ?_
 refine RN.p rfl (p_nilCheck rfl rfl) ?_
 refine RN.p rfl (p_fieldAddr rfl fa_57_0 rfl) ?_
 refine RN.u rfl (q_load rfl sc_54 rfl (i := 0) rfl rfl) ?_
 refine RN.p rfl (p_ptreql_nil rfl rfl rfl Tryd.underlying54) ?_
 refine RN.nil ?_
 refine hK1 _ _ ?_
 refine T.known 6 rfl (show _ = Value.bool true from rfl) ?_
 refine T.cond_t rfl ?_
 refine T.region (l := [0, 1, 2, 3, 4, 5, 6, 7]) rfl ?_
 refine RN.m rfl ?_
 refine RN.m rfl ?_
 refine RN.u rfl (q_toUnsafe rfl Tryd.underlying54 Tryd.underlying73 ts_57 (by decide) rfl (i := 0) rfl (by simp)) ?_
 refine RN.p rfl (p_noEsc rfl Tryd.func26 (by kernel_rfl) rfl (by kernel_rfl) (by kernel_rfl) rfl) ?_
 refine RN.u rfl (q_fromUnsafe rfl Tryd.underlying73 Tryd.underlying54 ts_57 rfl (i := 0) rfl (by kernel_rfl)) ?_
 refine RN.p rfl (p_nilCheck rfl rfl) ?_
 refine RN.p rfl (p_fieldAddr rfl fa_57_0 rfl) ?_
 refine RN.EN rfl rfl rfl (e_store rfl ts_54 rfl (by conv => lhs; whnf) (by first | rfl | assumption) (i := 0) rfl (by simp)) ?_
 rintro _ _ ⟨rfl, rfl⟩
 refine RN.nil ?_
 refine bodyQ_end [row b 57 [ptr b 0, sv]] RetRun.nil ⟨rfl, rfl⟩ (Ent.refl _)

theorem CopyCheck_used (b : Nat) (sv : Value) : Ctr Tryd.prog 21 [ptr b 0] [row b 57 [ptr b 0, sv]] (fun w Ps => w = .tuple #[] ∧ Ps = [row b 57 [ptr b 0, sv]]) := by
 refine Ctr.of_body Tryd.func21 rfl (by kernel_rfl) Tryd.ntmps21 rfl rfl (fun Fr => ?_)
 refine T.seq fun K1 hK1 => ?_
 refine T.region (l := [0, 1, 2, 3, 4]) rfl ?_
 refine RN.m rfl ?_
 refine RN.p rfl (p_nilCheck rfl rfl) ?_
 refine RN.p rfl (p_fieldAddr rfl fa_57_0 rfl) ?_
 refine RN.u rfl (q_load rfl sc_54 rfl (i := 0) rfl rfl) ?_
 refine RN.p rfl (p_ptreql_nil rfl rfl rfl Tryd.underlying54) ?_
 refine RN.nil ?_
 refine hK1 _ _ ?_
 refine T.known 6 rfl (show _ = Value.bool false from rfl) ?_
 refine T.cond_f rfl ?_
 refine T.seq fun K2 hK2 => ?_
 refine T.region (l := [0, 1, 2, 3, 4, 5]) rfl ?_
 refine RN.m rfl ?_
 refine RN.p rfl (p_nilCheck rfl rfl) ?_
 refine RN.p rfl (p_fieldAddr rfl fa_57_0 rfl) ?_
 refine RN.u rfl (q_load rfl sc_54 rfl (i := 0) rfl rfl) ?_
 refine RN.m rfl ?_
 refine RN.p rfl (p_ptrneq_self rfl rfl rfl Tryd.underlying54 ts_57) ?_
 refine RN.nil ?_
 refine hK2 _ _ ?_
 refine T.known 19 rfl (show _ = Value.bool false from rfl) ?_
 refine T.cond_f rfl ?_
 refine T.skip ?_
 refine bodyQ_end [row b 57 [ptr b 0, sv]] RetRun.nil ⟨rfl, rfl⟩ (Ent.refl _)

theorem CopyCheck_spec (b : Nat) (p sv : Value) (hp : p = .pointer none ∨ p = ptr b 0) : Ctr Tryd.prog 21 [ptr b 0] [row b 57 [p, sv]] (fun w Ps => w = .tuple #[] ∧ Ps = [row b 57 [ptr b 0, sv]]) := by
 rcases hp with rfl | rfl
 · exact CopyCheck_fresh b sv
 · exact CopyCheck_used b sv
theorem WriteX_spec (b : Nat) (p sv : Value) (l s : List UInt8) (hp : p = .pointer none ∨ p = ptr b 0) (h1 : sv.oneCell' = true) (hb : l.length + s.length ≤ 1000000000) : Ctr Tryd.prog 15 [ptr b 0, strV s] [row b 57 [p, sv], vec 5 1 sv l.length (l.map u8V)] (fun w Ps => w = .tuple #[intV s.length, .nilIface] ∧ ∃ v, v.oneCell' = true ∧ Ps = [row b 57 [ptr b 0, v], vec 5 1 v (l.length + s.length) (l.map u8V ++ s.map u8V)]) := by
 refine Ctr.of_body Tryd.func15 rfl (by kernel_rfl) Tryd.ntmps15 rfl rfl (fun Fr => ?_)
 refine T.seq fun K1 hK1 => ?_
 refine T.region (l := [0, 1]) rfl ?_
 refine RN.a rfl ?_
 refine RN.a rfl ?_
 refine RN.nil ?_
 refine hK1 _ _ ?_
 refine T.seq fun K2 hK2 => ?_
 refine T.region (l := [0, 1]) rfl ?_
 refine RN.m rfl ?_
 refine RN.C [0] rfl rfl rfl rfl (c_call rfl rfl) (CopyCheck_spec b p sv hp) rfl ?_
 rintro _ _ ⟨rfl, rfl⟩
 refine RN.nil ?_
 refine hK2 _ _ ?_
 refine T.seq fun K3 hK3 => ?_
 refine T.region (l := [0, 1, 2, 3, 4, 5, 6, 7, 8, 9]) rfl ?_
 refine RN.m rfl ?_
 refine RN.m rfl ?_
 refine RN.p rfl (p_nilCheck rfl rfl) ?_
 refine RN.p rfl (p_fieldAddr rfl fa_57_1 rfl) ?_
 refine RN.u rfl (q_load rfl sc_55 rfl (i := 0) rfl rfl) ?_
 refine RN.m rfl ?_
 refine RN.E rfl rfl rfl rfl (e_append rfl Tryd.underlying55 ni_9 ti_5 rfl rfl (i := 1) rfl src_str one_u8 (by omega)) ?_
 rintro v14 _ ⟨hv14, rfl⟩
 refine RN.p rfl (p_nilCheck rfl rfl) ?_
 refine RN.p rfl (p_fieldAddr rfl fa_57_1 rfl) ?_
 refine RN.EN rfl rfl rfl (e_store rfl ts_55 rfl (by conv => lhs; whnf) (by first | rfl | assumption) (i := 0) rfl (by simp)) ?_
 rintro _ _ ⟨rfl, rfl⟩
 refine RN.nil ?_
 refine hK3 _ _ ?_
 refine T.seq fun K4 hK4 => ?_
 refine T.region (l := [0, 1, 2, 3]) rfl ?_
 refine RN.m rfl ?_
 refine RN.p rfl (p_len_s rfl Tryd.underlying9 rfl) ?_
 refine RN.a rfl ?_
 refine RN.a rfl ?_
 refine RN.nil ?_
 refine hK4 _ _ ?_
 refine T.ret ?_
 refine bodyQ_ret [row b 57 [ptr b 0, v14], vec 5 1 v14 (l.length + s.length) (l.map u8V ++ s.map u8V)] (RetRun.tmp (RetRun.tmp RetRun.nil)) ⟨rfl, v14, hv14, rfl⟩ (Ent.refl _)

theorem WriteS_spec (b : Nat) (l s : List UInt8) (hs : s ≠ []) (hb : l.length + s.length ≤ 1000000000) : Ctr Tryd.prog 15 [ptr b 0, strV s] [bld 57 5 b l] (fun w Ps => w = .tuple #[intV s.length, .nilIface] ∧ Ps = [bld 57 5 b (l ++ s)]) :=
 Ctr.ofBld fun p sv h1 h2 h3 => (WriteX_spec b p sv l s h1 h2 hb).mono (Ent.refl _) fun w Ps h => by
  obtain ⟨rfl, v, hv, rfl⟩ := h
  exact ⟨_, ⟨rfl, rfl⟩, bld_in (.inr rfl) hv (fun g => absurd (List.append_eq_nil_iff.1 g).2 hs) (by rw [List.length_append]) (by rw [List.map_append])⟩
theorem StringX_spec (b : Nat) (p : Value) (n cap : Nat) (a : Option Addr) (sv : Value) (l : List UInt8) (hsv : sv = .slice a n cap) (hn : n = l.length) (hc : a.isSome = true → cap ≠ 0) (h1 : sv.oneCell' = true) (h3 : l = [] → sv = .slice none 0 0) (hb : l.length ≤ 1000000000) : Ctr Tryd.prog 16 [ptr b 0] [row b 57 [p, sv], vec 5 1 sv l.length (l.map u8V)] (fun w Ps => w = strV l ∧ Ps = []) := by
 refine Ctr.of_body Tryd.func16 rfl (by kernel_rfl) Tryd.ntmps16 rfl rfl (fun Fr => ?_)
 subst hsv hn
 refine T.seq fun K1 hK1 => ?_
 refine T.region (l := [0]) rfl ?_
 refine RN.a rfl ?_
 refine RN.nil ?_
 refine hK1 _ _ ?_
 refine T.seq fun K2 hK2 => ?_
 refine T.regionD (z := 12) (Bs := [row b 57 [p, .slice a l.length cap]]) (l := [(0, .pure), (1, .pure), (2, .pure), (3, .load), (4, .pure), (5, .pure), (6, .pure), (7, .pure), (8, .load), (9, .pure), (10, .eff), (11, .pure)]) mixed (by kernel_rfl) (by first | exact Ent.refl _ | exact Ent.pull_drop (is := [0]) rfl | exact Ent.pull_drop (is := [1]) rfl | exact Ent.pull_drop (is := [2]) rfl | exact Ent.pull_drop (is := [3]) rfl | exact Ent.pull_drop (is := [4]) rfl | exact Ent.pull_drop (is := [5]) rfl | exact Ent.pull_drop (is := [6]) rfl | exact Ent.pull_drop (is := [7]) rfl) ?_
 refine RD.n rfl (p_move rfl (by conv => lhs; whnf)) ?_
 refine RD.n rfl (p_nilCheck rfl rfl) ?_
 refine RD.n rfl (p_fieldAddr rfl fa_57_1 rfl) ?_
 refine RD.qq rfl rfl rfl rfl (q_load rfl sc_55 rfl (i := 0) rfl rfl) (by first | exact Ent.refl _ | exact Ent.pull_drop (is := [0]) rfl | exact Ent.pull_drop (is := [1]) rfl | exact Ent.pull_drop (is := [2]) rfl | exact Ent.pull_drop (is := [3]) rfl | exact Ent.pull_drop (is := [4]) rfl | exact Ent.pull_drop (is := [5]) rfl | exact Ent.pull_drop (is := [6]) rfl | exact Ent.pull_drop (is := [7]) rfl) ?_
 refine RD.n rfl (p_sliceData rfl rfl hc) ?_
 refine RD.n rfl (p_move rfl (by conv => lhs; whnf)) ?_
 refine RD.n rfl (p_nilCheck rfl rfl) ?_
 refine RD.n rfl (p_fieldAddr rfl fa_57_1 rfl) ?_
 refine RD.qq rfl rfl rfl rfl (q_load rfl sc_55 rfl (i := 0) rfl rfl) (by first | exact Ent.refl _ | exact Ent.pull_drop (is := [0]) rfl | exact Ent.pull_drop (is := [1]) rfl | exact Ent.pull_drop (is := [2]) rfl | exact Ent.pull_drop (is := [3]) rfl | exact Ent.pull_drop (is := [4]) rfl | exact Ent.pull_drop (is := [5]) rfl | exact Ent.pull_drop (is := [6]) rfl | exact Ent.pull_drop (is := [7]) rfl) ?_
 refine RD.n rfl (p_len rfl Tryd.underlying55 rfl) ?_
 refine RD.E rfl rfl rfl rfl (e_unsafeString rfl Tryd.underlying66 (by kernel_rfl) rfl rfl (i := 1) rfl h3 (by omega)) (by rintro _ _ ⟨_, rfl⟩; exact .inl (Ent.pull_drop (is := [0]) rfl)) ?_
 rintro _ _ ⟨rfl, rfl⟩
 refine RD.n rfl (p_assign rfl (by conv => lhs; whnf)) ?_
 refine RD.nil ?_
 refine hK2 _ _ ?_
 refine T.ret ?_
 refine bodyQ_ret [] (RetRun.tmp RetRun.nil) ⟨rfl, rfl⟩ (Ent.pull_drop (is := [1]) rfl)

theorem StringS_spec (b : Nat) (l : List UInt8) (hb : l.length ≤ 1000000000) : Ctr Tryd.prog 16 [ptr b 0] [bld 57 5 b l] (fun w Ps => w = strV l ∧ Ps = []) :=
 ⟨(StringX_spec b (.pointer none) 0 0 none (.slice none 0 0) [] rfl rfl (fun h => by cases h) rfl (fun _ => rfl) (by decide)).1, fun W0 Fr w hs => by
  obtain ⟨p, sv, ⟨h1, h2, h3⟩, s⟩ := bld_out (L := [Fr]) hs
  have hsh : ∃ a cap, sv = .slice a l.length cap ∧ (a.isSome = true → cap ≠ 0) := (s.mono (Ent.drop _ _)).fact (fun f hf => by
   obtain ⟨_, ⟨rfl, h0⟩ | ⟨c, cap, rest, rfl, hle, _⟩⟩ := hf
   · exact ⟨none, 0, by rw [h0], fun h => by cases h⟩
   ·
    refine ⟨_, cap, rfl, fun _ hz => ?_⟩
    have hl : l = [] := List.eq_nil_of_length_eq_zero (by omega)
    have := h3 hl
    unfold slc at this
    cases this)
  obtain ⟨a, cap, hsv, hc⟩ := hsh
  exact (StringX_spec b p l.length cap a sv l hsv rfl hc h2 h3 hb).2 W0 Fr w s⟩
end Go.Proofs.YtokbjejbgbdkoaaDoor
