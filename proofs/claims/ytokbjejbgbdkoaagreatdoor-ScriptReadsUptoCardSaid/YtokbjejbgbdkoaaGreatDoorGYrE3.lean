/-
 Commands, as the law takes them: walked.
-/
import Derived.Test.YtokbjejbgbdkoaaGreatDoorGYrE2
import Derived.Test.YtokbjejbgbdkoaaGreatDoorGSl23
import Derived.Test.YtokbjejbgbdkoaaGreatDoorGSl12
set_option linter.unusedVariables false
set_option linter.unusedSimpArgs false
namespace Go.Proofs.YtokbjejbgbdkoaaGreatDoor
open Go Go.Sl Go.Proofs
set_option maxRecDepth 20000
open Go.Mo Go.Proofs Go.Shelf Go.RowKit Go.Evl
theorem OfRead_spec (a b : Int) : Ctr Tryz.prog 8 [.iface 51 (.agg #[iC a, iC b])] [] (fun w Ps => w = .tuple #[.agg (rcC (Cm.mk 114 a b [])).toArray, .bool true] ∧ Ps = []) := by
 refine Ctr.of_body Tryz.func8 rfl (by kernel_rfl) Tryz.ntmps8 rfl rfl (fun Fr => ?_)
 refine T.seq fun K1 hK1 => ?_
 refine T.region (l := [0, 1]) rfl ?_
 refine RN.E rfl rfl rfl rfl (e_alloc rfl ti_31) ?_
 rintro _ _ ⟨b2, rfl, rfl⟩
 refine RN.a rfl ?_
 refine RN.nil ?_
 refine hK1 _ _ ?_
 refine T.seq fun K2 hK2 => ?_
 refine T.seq fun K3 hK3 => ?_
 refine T.region (l := [0]) rfl ?_
 refine RN.m rfl ?_
 refine RN.nil ?_
 refine hK3 _ _ ?_
 refine T.block ?_
 refine T.seq fun K4 hK4 => ?_
 refine T.region (l := [0, 1, 2]) rfl ?_
 refine RN.p rfl (p_taYes rfl Tryz.underlying51 rfl) ?_
 refine RN.p rfl (p_extract rfl rfl rfl) ?_
 refine RN.p rfl (p_extract rfl rfl rfl) ?_
 refine RN.nil ?_
 refine hK4 _ _ ?_
 refine T.cond_t rfl ?_
 refine T.seq fun K5 hK5 => ?_
 refine T.region (l := [0, 1]) rfl ?_
 refine RN.E rfl rfl rfl rfl (e_alloc rfl ti_51) ?_
 rintro _ _ ⟨b4, rfl, rfl⟩
 refine RN.EN rfl rfl rfl (e_storeA (vs := [iC a, iC b]) rfl ts_51 rfl rfl rfl (by intro u hu; simp only [List.mem_cons, List.not_mem_nil, or_false] at hu; rcases hu with rfl | rfl <;> rfl) (i := 0) rfl (Nat.le_refl 2)) ?_
 rintro _ _ ⟨rfl, rfl⟩
 refine RN.nil ?_
 refine hK5 _ _ ?_
 refine T.seq fun K6 hK6 => ?_
 refine T.region (l := [0, 1, 2, 3, 4, 5, 6]) rfl ?_
 refine RN.p rfl (p_fieldAddr rfl fa_51_0 rfl) ?_
 refine RN.u rfl (q_load (v := iC a) rfl sc_3 rfl (i := 0) rfl rfl) ?_
 refine RN.p rfl (p_fieldAddr rfl fa_51_1 rfl) ?_
 refine RN.u rfl (q_load (v := iC b) rfl sc_3 rfl (i := 0) rfl rfl) ?_
 refine RN.p rfl (p_build rfl pl_31 ti_31 (by dsimp [layAll, lay]; rfl)) ?_
 refine RN.EN rfl rfl rfl (e_storeA (vs := rcC (Cm.mk 114 a b [])) rfl ts_31 rfl rfl rfl rc_one (i := 1) rfl (Nat.le_refl 4)) ?_
 rintro _ _ ⟨rfl, rfl⟩
 refine RN.a rfl ?_
 refine RN.nil ?_
 refine hK6 _ _ ?_
 refine T.ret ?_
 refine Post.block_r ?_
 refine Post.seq_r ?_
 refine bodyQ_ret [] (RetRun.cell rfl (load_cell (vs := rcC (Cm.mk 114 a b [])) ag_31 ts_31 (i := 1) rfl (Nat.le_refl 4) rfl) (RetRun.tmp RetRun.nil)) ⟨rfl, rfl⟩ (Ent.pull_drop (is := [2]) rfl)

theorem OfWrite_spec (a b : Int) (s : List UInt8) : Ctr Tryz.prog 8 [.iface 46 (.agg #[iC a, iC b, strV s])] [] (fun w Ps => w = .tuple #[.agg (rcC (Cm.mk 119 a b s)).toArray, .bool true] ∧ Ps = []) := by
 refine Ctr.of_body Tryz.func8 rfl (by kernel_rfl) Tryz.ntmps8 rfl rfl (fun Fr => ?_)
 refine T.seq fun K1 hK1 => ?_
 refine T.region (l := [0, 1]) rfl ?_
 refine RN.E rfl rfl rfl rfl (e_alloc rfl ti_31) ?_
 rintro _ _ ⟨b2, rfl, rfl⟩
 refine RN.a rfl ?_
 refine RN.nil ?_
 refine hK1 _ _ ?_
 refine T.seq fun K2 hK2 => ?_
 refine T.seq fun K3 hK3 => ?_
 refine T.region (l := [0]) rfl ?_
 refine RN.m rfl ?_
 refine RN.nil ?_
 refine hK3 _ _ ?_
 refine T.block ?_
 refine T.seq fun K4 hK4 => ?_
 refine T.region (l := [0, 1, 2]) rfl ?_
 refine RN.p rfl (p_taOther rfl Tryz.underlying51 ti_51 rfl (by decide)) ?_
 refine RN.p rfl (p_extract rfl rfl rfl) ?_
 refine RN.p rfl (p_extract rfl rfl rfl) ?_
 refine RN.nil ?_
 refine hK4 _ _ ?_
 refine T.cond_f rfl ?_
 refine T.seq fun K5 hK5 => ?_
 refine T.region (l := [0, 1, 2]) rfl ?_
 refine RN.p rfl (p_taYes rfl Tryz.underlying46 rfl) ?_
 refine RN.p rfl (p_extract rfl rfl rfl) ?_
 refine RN.p rfl (p_extract rfl rfl rfl) ?_
 refine RN.nil ?_
 refine hK5 _ _ ?_
 refine T.cond_t rfl ?_
 refine T.seq fun K6 hK6 => ?_
 refine T.region (l := [0, 1]) rfl ?_
 refine RN.E rfl rfl rfl rfl (e_alloc rfl ti_46) ?_
 rintro _ _ ⟨b5, rfl, rfl⟩
 refine RN.EN rfl rfl rfl (e_storeA (vs := [iC a, iC b, strV s]) rfl ts_46 rfl rfl rfl (by intro u hu; simp only [List.mem_cons, List.not_mem_nil, or_false] at hu; rcases hu with rfl | rfl | rfl <;> rfl) (i := 0) rfl (Nat.le_refl 3)) ?_
 rintro _ _ ⟨rfl, rfl⟩
 refine RN.nil ?_
 refine hK6 _ _ ?_
 refine T.seq fun K7 hK7 => ?_
 refine T.region (l := [0, 1, 2, 3, 4, 5, 6, 7, 8]) rfl ?_
 refine RN.p rfl (p_fieldAddr rfl fa_46_0 rfl) ?_
 refine RN.u rfl (q_load (v := iC a) rfl sc_3 rfl (i := 0) rfl rfl) ?_
 refine RN.p rfl (p_fieldAddr rfl fa_46_1 rfl) ?_
 refine RN.u rfl (q_load (v := iC b) rfl sc_3 rfl (i := 0) rfl rfl) ?_
 refine RN.p rfl (p_fieldAddr rfl fa_46_2 rfl) ?_
 refine RN.u rfl (q_load (v := strV s) rfl sc_9 rfl (i := 0) rfl rfl) ?_
 refine RN.p rfl (p_build rfl pl_31 ti_31 (by dsimp [layAll, lay]; rfl)) ?_
 refine RN.EN rfl rfl rfl (e_storeA (vs := rcC (Cm.mk 119 a b s)) rfl ts_31 rfl rfl rfl rc_one (i := 1) rfl (Nat.le_refl 4)) ?_
 rintro _ _ ⟨rfl, rfl⟩
 refine RN.a rfl ?_
 refine RN.nil ?_
 refine hK7 _ _ ?_
 refine T.ret ?_
 refine Post.block_r ?_
 refine Post.seq_r ?_
 refine bodyQ_ret [] (RetRun.cell rfl (load_cell (vs := rcC (Cm.mk 119 a b s)) ag_31 ts_31 (i := 1) rfl (Nat.le_refl 4) rfl) (RetRun.tmp RetRun.nil)) ⟨rfl, rfl⟩ (Ent.pull_drop (is := [2]) rfl)

theorem OfTrim_spec (a b : Int) : Ctr Tryz.prog 8 [.iface 52 (.agg #[iC a, iC b])] [] (fun w Ps => w = .tuple #[.agg (rcC (Cm.mk 116 a b [])).toArray, .bool true] ∧ Ps = []) := by
 refine Ctr.of_body Tryz.func8 rfl (by kernel_rfl) Tryz.ntmps8 rfl rfl (fun Fr => ?_)
 refine T.seq fun K1 hK1 => ?_
 refine T.region (l := [0, 1]) rfl ?_
 refine RN.E rfl rfl rfl rfl (e_alloc rfl ti_31) ?_
 rintro _ _ ⟨b2, rfl, rfl⟩
 refine RN.a rfl ?_
 refine RN.nil ?_
 refine hK1 _ _ ?_
 refine T.seq fun K2 hK2 => ?_
 refine T.seq fun K3 hK3 => ?_
 refine T.region (l := [0]) rfl ?_
 refine RN.m rfl ?_
 refine RN.nil ?_
 refine hK3 _ _ ?_
 refine T.block ?_
 refine T.seq fun K4 hK4 => ?_
 refine T.region (l := [0, 1, 2]) rfl ?_
 refine RN.p rfl (p_taOther rfl Tryz.underlying51 ti_51 rfl (by decide)) ?_
 refine RN.p rfl (p_extract rfl rfl rfl) ?_
 refine RN.p rfl (p_extract rfl rfl rfl) ?_
 refine RN.nil ?_
 refine hK4 _ _ ?_
 refine T.cond_f rfl ?_
 refine T.seq fun K5 hK5 => ?_
 refine T.region (l := [0, 1, 2]) rfl ?_
 refine RN.p rfl (p_taOther rfl Tryz.underlying46 ti_46 rfl (by decide)) ?_
 refine RN.p rfl (p_extract rfl rfl rfl) ?_
 refine RN.p rfl (p_extract rfl rfl rfl) ?_
 refine RN.nil ?_
 refine hK5 _ _ ?_
 refine T.cond_f rfl ?_
 refine T.seq fun K6 hK6 => ?_
 refine T.region (l := [0, 1, 2]) rfl ?_
 refine RN.p rfl (p_taYes rfl Tryz.underlying52 rfl) ?_
 refine RN.p rfl (p_extract rfl rfl rfl) ?_
 refine RN.p rfl (p_extract rfl rfl rfl) ?_
 refine RN.nil ?_
 refine hK6 _ _ ?_
 refine T.cond_t rfl ?_
 refine T.seq fun K7 hK7 => ?_
 refine T.region (l := [0, 1]) rfl ?_
 refine RN.E rfl rfl rfl rfl (e_alloc rfl ti_52) ?_
 rintro _ _ ⟨b6, rfl, rfl⟩
 refine RN.EN rfl rfl rfl (e_storeA (vs := [iC a, iC b]) rfl ts_52 rfl rfl rfl (by intro u hu; simp only [List.mem_cons, List.not_mem_nil, or_false] at hu; rcases hu with rfl | rfl <;> rfl) (i := 0) rfl (Nat.le_refl 2)) ?_
 rintro _ _ ⟨rfl, rfl⟩
 refine RN.nil ?_
 refine hK7 _ _ ?_
 refine T.seq fun K8 hK8 => ?_
 refine T.region (l := [0, 1, 2, 3, 4, 5, 6]) rfl ?_
 refine RN.p rfl (p_fieldAddr rfl fa_52_0 rfl) ?_
 refine RN.u rfl (q_load (v := iC a) rfl sc_3 rfl (i := 0) rfl rfl) ?_
 refine RN.p rfl (p_fieldAddr rfl fa_52_1 rfl) ?_
 refine RN.u rfl (q_load (v := iC b) rfl sc_3 rfl (i := 0) rfl rfl) ?_
 refine RN.p rfl (p_build rfl pl_31 ti_31 (by dsimp [layAll, lay]; rfl)) ?_
 refine RN.EN rfl rfl rfl (e_storeA (vs := rcC (Cm.mk 116 a b [])) rfl ts_31 rfl rfl rfl rc_one (i := 1) rfl (Nat.le_refl 4)) ?_
 rintro _ _ ⟨rfl, rfl⟩
 refine RN.a rfl ?_
 refine RN.nil ?_
 refine hK8 _ _ ?_
 refine T.ret ?_
 refine Post.block_r ?_
 refine Post.seq_r ?_
 refine bodyQ_ret [] (RetRun.cell rfl (load_cell (vs := rcC (Cm.mk 116 a b [])) ag_31 ts_31 (i := 1) rfl (Nat.le_refl 4) rfl) (RetRun.tmp RetRun.nil)) ⟨rfl, rfl⟩ (Ent.pull_drop (is := [2]) rfl)

theorem OfCut_spec (a : Int) : Ctr Tryz.prog 8 [.iface 54 (.agg #[iC a])] [] (fun w Ps => w = .tuple #[.agg (rcC (Cm.mk 99 a 0 [])).toArray, .bool true] ∧ Ps = []) := by
 refine Ctr.of_body Tryz.func8 rfl (by kernel_rfl) Tryz.ntmps8 rfl rfl (fun Fr => ?_)
 refine T.seq fun K1 hK1 => ?_
 refine T.region (l := [0, 1]) rfl ?_
 refine RN.E rfl rfl rfl rfl (e_alloc rfl ti_31) ?_
 rintro _ _ ⟨b2, rfl, rfl⟩
 refine RN.a rfl ?_
 refine RN.nil ?_
 refine hK1 _ _ ?_
 refine T.seq fun K2 hK2 => ?_
 refine T.seq fun K3 hK3 => ?_
 refine T.region (l := [0]) rfl ?_
 refine RN.m rfl ?_
 refine RN.nil ?_
 refine hK3 _ _ ?_
 refine T.block ?_
 refine T.seq fun K4 hK4 => ?_
 refine T.region (l := [0, 1, 2]) rfl ?_
 refine RN.p rfl (p_taOther rfl Tryz.underlying51 ti_51 rfl (by decide)) ?_
 refine RN.p rfl (p_extract rfl rfl rfl) ?_
 refine RN.p rfl (p_extract rfl rfl rfl) ?_
 refine RN.nil ?_
 refine hK4 _ _ ?_
 refine T.cond_f rfl ?_
 refine T.seq fun K5 hK5 => ?_
 refine T.region (l := [0, 1, 2]) rfl ?_
 refine RN.p rfl (p_taOther rfl Tryz.underlying46 ti_46 rfl (by decide)) ?_
 refine RN.p rfl (p_extract rfl rfl rfl) ?_
 refine RN.p rfl (p_extract rfl rfl rfl) ?_
 refine RN.nil ?_
 refine hK5 _ _ ?_
 refine T.cond_f rfl ?_
 refine T.seq fun K6 hK6 => ?_
 refine T.region (l := [0, 1, 2]) rfl ?_
 refine RN.p rfl (p_taOther rfl Tryz.underlying52 ti_52 rfl (by decide)) ?_
 refine RN.p rfl (p_extract rfl rfl rfl) ?_
 refine RN.p rfl (p_extract rfl rfl rfl) ?_
 refine RN.nil ?_
 refine hK6 _ _ ?_
 refine T.cond_f rfl ?_
 refine T.seq fun K7 hK7 => ?_
 refine T.region (l := [0, 1, 2]) rfl ?_
 refine RN.p rfl (p_taYes rfl Tryz.underlying54 rfl) ?_
 refine RN.p rfl (p_extract rfl rfl rfl) ?_
 refine RN.p rfl (p_extract rfl rfl rfl) ?_
 refine RN.nil ?_
 refine hK7 _ _ ?_
 refine T.cond_t rfl ?_
 refine T.seq fun K8 hK8 => ?_
 refine T.region (l := [0, 1]) rfl ?_
 refine RN.E rfl rfl rfl rfl (e_alloc rfl ti_54) ?_
 rintro _ _ ⟨b7, rfl, rfl⟩
 refine RN.EN rfl rfl rfl (e_storeA (vs := [iC a]) rfl ts_54 rfl rfl rfl (by intro u hu; simp only [List.mem_cons, List.not_mem_nil, or_false] at hu; subst hu; rfl) (i := 0) rfl (Nat.le_refl 1)) ?_
 rintro _ _ ⟨rfl, rfl⟩
 refine RN.nil ?_
 refine hK8 _ _ ?_
 refine T.seq fun K9 hK9 => ?_
 refine T.region (l := [0, 1, 2, 3, 4]) rfl ?_
 refine RN.p rfl (p_fieldAddr rfl fa_54_0 rfl) ?_
 refine RN.u rfl (q_load (v := iC a) rfl sc_3 rfl (i := 0) rfl rfl) ?_
 refine RN.p rfl (p_build rfl pl_31 ti_31 (by dsimp [layAll, lay]; rfl)) ?_
 refine RN.EN rfl rfl rfl (e_storeA (vs := rcC (Cm.mk 99 a 0 [])) rfl ts_31 rfl rfl rfl rc_one (i := 1) rfl (Nat.le_refl 4)) ?_
 rintro _ _ ⟨rfl, rfl⟩
 refine RN.a rfl ?_
 refine RN.nil ?_
 refine hK9 _ _ ?_
 refine T.ret ?_
 refine Post.block_r ?_
 refine Post.seq_r ?_
 refine bodyQ_ret [] (RetRun.cell rfl (load_cell (vs := rcC (Cm.mk 99 a 0 [])) ag_31 ts_31 (i := 1) rfl (Nat.le_refl 4) rfl) (RetRun.tmp RetRun.nil)) ⟨rfl, rfl⟩ (Ent.pull_drop (is := [2]) rfl)

theorem OfFail_spec (a : Int) : Ctr Tryz.prog 8 [.iface 55 (.agg #[iC a])] [] (fun w Ps => w = .tuple #[.agg (rcC (Cm.mk 102 a 0 [])).toArray, .bool true] ∧ Ps = []) := by
 refine Ctr.of_body Tryz.func8 rfl (by kernel_rfl) Tryz.ntmps8 rfl rfl (fun Fr => ?_)
 refine T.seq fun K1 hK1 => ?_
 refine T.region (l := [0, 1]) rfl ?_
 refine RN.E rfl rfl rfl rfl (e_alloc rfl ti_31) ?_
 rintro _ _ ⟨b2, rfl, rfl⟩
 refine RN.a rfl ?_
 refine RN.nil ?_
 refine hK1 _ _ ?_
 refine T.seq fun K2 hK2 => ?_
 refine T.seq fun K3 hK3 => ?_
 refine T.region (l := [0]) rfl ?_
 refine RN.m rfl ?_
 refine RN.nil ?_
 refine hK3 _ _ ?_
 refine T.block ?_
 refine T.seq fun K4 hK4 => ?_
 refine T.region (l := [0, 1, 2]) rfl ?_
 refine RN.p rfl (p_taOther rfl Tryz.underlying51 ti_51 rfl (by decide)) ?_
 refine RN.p rfl (p_extract rfl rfl rfl) ?_
 refine RN.p rfl (p_extract rfl rfl rfl) ?_
 refine RN.nil ?_
 refine hK4 _ _ ?_
 refine T.cond_f rfl ?_
 refine T.seq fun K5 hK5 => ?_
 refine T.region (l := [0, 1, 2]) rfl ?_
 refine RN.p rfl (p_taOther rfl Tryz.underlying46 ti_46 rfl (by decide)) ?_
 refine RN.p rfl (p_extract rfl rfl rfl) ?_
 refine RN.p rfl (p_extract rfl rfl rfl) ?_
 refine RN.nil ?_
 refine hK5 _ _ ?_
 refine T.cond_f rfl ?_
 refine T.seq fun K6 hK6 => ?_
 refine T.region (l := [0, 1, 2]) rfl ?_
 refine RN.p rfl (p_taOther rfl Tryz.underlying52 ti_52 rfl (by decide)) ?_
 refine RN.p rfl (p_extract rfl rfl rfl) ?_
 refine RN.p rfl (p_extract rfl rfl rfl) ?_
 refine RN.nil ?_
 refine hK6 _ _ ?_
 refine T.cond_f rfl ?_
 refine T.seq fun K7 hK7 => ?_
 refine T.region (l := [0, 1, 2]) rfl ?_
 refine RN.p rfl (p_taOther rfl Tryz.underlying54 ti_54 rfl (by decide)) ?_
 refine RN.p rfl (p_extract rfl rfl rfl) ?_
 refine RN.p rfl (p_extract rfl rfl rfl) ?_
 refine RN.nil ?_
 refine hK7 _ _ ?_
 refine T.cond_f rfl ?_
 refine T.seq fun K8 hK8 => ?_
 refine T.region (l := [0, 1, 2]) rfl ?_
 refine RN.p rfl (p_taYes rfl Tryz.underlying55 rfl) ?_
 refine RN.p rfl (p_extract rfl rfl rfl) ?_
 refine RN.p rfl (p_extract rfl rfl rfl) ?_
 refine RN.nil ?_
 refine hK8 _ _ ?_
 refine T.cond_t rfl ?_
 refine T.seq fun K9 hK9 => ?_
 refine T.region (l := [0, 1]) rfl ?_
 refine RN.E rfl rfl rfl rfl (e_alloc rfl ti_55) ?_
 rintro _ _ ⟨b8, rfl, rfl⟩
 refine RN.EN rfl rfl rfl (e_storeA (vs := [iC a]) rfl ts_55 rfl rfl rfl (by intro u hu; simp only [List.mem_cons, List.not_mem_nil, or_false] at hu; subst hu; rfl) (i := 0) rfl (Nat.le_refl 1)) ?_
 rintro _ _ ⟨rfl, rfl⟩
 refine RN.nil ?_
 refine hK9 _ _ ?_
 refine T.seq fun K10 hK10 => ?_
 refine T.region (l := [0, 1, 2, 3, 4]) rfl ?_
 refine RN.p rfl (p_fieldAddr rfl fa_55_0 rfl) ?_
 refine RN.u rfl (q_load (v := iC a) rfl sc_3 rfl (i := 0) rfl rfl) ?_
 refine RN.p rfl (p_build rfl pl_31 ti_31 (by dsimp [layAll, lay]; rfl)) ?_
 refine RN.EN rfl rfl rfl (e_storeA (vs := rcC (Cm.mk 102 a 0 [])) rfl ts_31 rfl rfl rfl rc_one (i := 1) rfl (Nat.le_refl 4)) ?_
 rintro _ _ ⟨rfl, rfl⟩
 refine RN.a rfl ?_
 refine RN.nil ?_
 refine hK10 _ _ ?_
 refine T.ret ?_
 refine Post.block_r ?_
 refine Post.seq_r ?_
 refine bodyQ_ret [] (RetRun.cell rfl (load_cell (vs := rcC (Cm.mk 102 a 0 [])) ag_31 ts_31 (i := 1) rfl (Nat.le_refl 4) rfl) (RetRun.tmp RetRun.nil)) ⟨rfl, rfl⟩ (Ent.pull_drop (is := [2]) rfl)

theorem OfMount_spec (a : Int) : Ctr Tryz.prog 8 [.iface 56 (.agg #[iC a])] [] (fun w Ps => w = .tuple #[.agg (rcC (Cm.mk 109 a 0 [])).toArray, .bool true] ∧ Ps = []) := by
 refine Ctr.of_body Tryz.func8 rfl (by kernel_rfl) Tryz.ntmps8 rfl rfl (fun Fr => ?_)
 refine T.seq fun K1 hK1 => ?_
 refine T.region (l := [0, 1]) rfl ?_
 refine RN.E rfl rfl rfl rfl (e_alloc rfl ti_31) ?_
 rintro _ _ ⟨b2, rfl, rfl⟩
 refine RN.a rfl ?_
 refine RN.nil ?_
 refine hK1 _ _ ?_
 refine T.seq fun K2 hK2 => ?_
 refine T.seq fun K3 hK3 => ?_
 refine T.region (l := [0]) rfl ?_
 refine RN.m rfl ?_
 refine RN.nil ?_
 refine hK3 _ _ ?_
 refine T.block ?_
 refine T.seq fun K4 hK4 => ?_
 refine T.region (l := [0, 1, 2]) rfl ?_
 refine RN.p rfl (p_taOther rfl Tryz.underlying51 ti_51 rfl (by decide)) ?_
 refine RN.p rfl (p_extract rfl rfl rfl) ?_
 refine RN.p rfl (p_extract rfl rfl rfl) ?_
 refine RN.nil ?_
 refine hK4 _ _ ?_
 refine T.cond_f rfl ?_
 refine T.seq fun K5 hK5 => ?_
 refine T.region (l := [0, 1, 2]) rfl ?_
 refine RN.p rfl (p_taOther rfl Tryz.underlying46 ti_46 rfl (by decide)) ?_
 refine RN.p rfl (p_extract rfl rfl rfl) ?_
 refine RN.p rfl (p_extract rfl rfl rfl) ?_
 refine RN.nil ?_
 refine hK5 _ _ ?_
 refine T.cond_f rfl ?_
 refine T.seq fun K6 hK6 => ?_
 refine T.region (l := [0, 1, 2]) rfl ?_
 refine RN.p rfl (p_taOther rfl Tryz.underlying52 ti_52 rfl (by decide)) ?_
 refine RN.p rfl (p_extract rfl rfl rfl) ?_
 refine RN.p rfl (p_extract rfl rfl rfl) ?_
 refine RN.nil ?_
 refine hK6 _ _ ?_
 refine T.cond_f rfl ?_
 refine T.seq fun K7 hK7 => ?_
 refine T.region (l := [0, 1, 2]) rfl ?_
 refine RN.p rfl (p_taOther rfl Tryz.underlying54 ti_54 rfl (by decide)) ?_
 refine RN.p rfl (p_extract rfl rfl rfl) ?_
 refine RN.p rfl (p_extract rfl rfl rfl) ?_
 refine RN.nil ?_
 refine hK7 _ _ ?_
 refine T.cond_f rfl ?_
 refine T.seq fun K8 hK8 => ?_
 refine T.region (l := [0, 1, 2]) rfl ?_
 refine RN.p rfl (p_taOther rfl Tryz.underlying55 ti_55 rfl (by decide)) ?_
 refine RN.p rfl (p_extract rfl rfl rfl) ?_
 refine RN.p rfl (p_extract rfl rfl rfl) ?_
 refine RN.nil ?_
 refine hK8 _ _ ?_
 refine T.cond_f rfl ?_
 refine T.seq fun K9 hK9 => ?_
 refine T.region (l := [0, 1, 2]) rfl ?_
 refine RN.p rfl (p_taYes rfl Tryz.underlying56 rfl) ?_
 refine RN.p rfl (p_extract rfl rfl rfl) ?_
 refine RN.p rfl (p_extract rfl rfl rfl) ?_
 refine RN.nil ?_
 refine hK9 _ _ ?_
 refine T.cond_t rfl ?_
 refine T.seq fun K10 hK10 => ?_
 refine T.region (l := [0, 1]) rfl ?_
 refine RN.E rfl rfl rfl rfl (e_alloc rfl ti_56) ?_
 rintro _ _ ⟨b9, rfl, rfl⟩
 refine RN.EN rfl rfl rfl (e_storeA (vs := [iC a]) rfl ts_56 rfl rfl rfl (by intro u hu; simp only [List.mem_cons, List.not_mem_nil, or_false] at hu; subst hu; rfl) (i := 0) rfl (Nat.le_refl 1)) ?_
 rintro _ _ ⟨rfl, rfl⟩
 refine RN.nil ?_
 refine hK10 _ _ ?_
 refine T.seq fun K11 hK11 => ?_
 refine T.region (l := [0, 1, 2, 3, 4]) rfl ?_
 refine RN.p rfl (p_fieldAddr rfl fa_56_0 rfl) ?_
 refine RN.u rfl (q_load (v := iC a) rfl sc_3 rfl (i := 0) rfl rfl) ?_
 refine RN.p rfl (p_build rfl pl_31 ti_31 (by dsimp [layAll, lay]; rfl)) ?_
 refine RN.EN rfl rfl rfl (e_storeA (vs := rcC (Cm.mk 109 a 0 [])) rfl ts_31 rfl rfl rfl rc_one (i := 1) rfl (Nat.le_refl 4)) ?_
 rintro _ _ ⟨rfl, rfl⟩
 refine RN.a rfl ?_
 refine RN.nil ?_
 refine hK11 _ _ ?_
 refine T.ret ?_
 refine Post.block_r ?_
 refine Post.seq_r ?_
 refine bodyQ_ret [] (RetRun.cell rfl (load_cell (vs := rcC (Cm.mk 109 a 0 [])) ag_31 ts_31 (i := 1) rfl (Nat.le_refl 4) rfl) (RetRun.tmp RetRun.nil)) ⟨rfl, rfl⟩ (Ent.pull_drop (is := [2]) rfl)

theorem OfShow_spec  : Ctr Tryz.prog 8 [.iface 58 (.agg #[])] [] (fun w Ps => w = .tuple #[.agg (rcC (Cm.mk 115 0 0 [])).toArray, .bool true] ∧ Ps = []) := by
 refine Ctr.of_body Tryz.func8 rfl (by kernel_rfl) Tryz.ntmps8 rfl rfl (fun Fr => ?_)
 refine T.seq fun K1 hK1 => ?_
 refine T.region (l := [0, 1]) rfl ?_
 refine RN.E rfl rfl rfl rfl (e_alloc rfl ti_31) ?_
 rintro _ _ ⟨b2, rfl, rfl⟩
 refine RN.a rfl ?_
 refine RN.nil ?_
 refine hK1 _ _ ?_
 refine T.seq fun K2 hK2 => ?_
 refine T.seq fun K3 hK3 => ?_
 refine T.region (l := [0]) rfl ?_
 refine RN.m rfl ?_
 refine RN.nil ?_
 refine hK3 _ _ ?_
 refine T.block ?_
 refine T.seq fun K4 hK4 => ?_
 refine T.region (l := [0, 1, 2]) rfl ?_
 refine RN.p rfl (p_taOther rfl Tryz.underlying51 ti_51 rfl (by decide)) ?_
 refine RN.p rfl (p_extract rfl rfl rfl) ?_
 refine RN.p rfl (p_extract rfl rfl rfl) ?_
 refine RN.nil ?_
 refine hK4 _ _ ?_
 refine T.cond_f rfl ?_
 refine T.seq fun K5 hK5 => ?_
 refine T.region (l := [0, 1, 2]) rfl ?_
 refine RN.p rfl (p_taOther rfl Tryz.underlying46 ti_46 rfl (by decide)) ?_
 refine RN.p rfl (p_extract rfl rfl rfl) ?_
 refine RN.p rfl (p_extract rfl rfl rfl) ?_
 refine RN.nil ?_
 refine hK5 _ _ ?_
 refine T.cond_f rfl ?_
 refine T.seq fun K6 hK6 => ?_
 refine T.region (l := [0, 1, 2]) rfl ?_
 refine RN.p rfl (p_taOther rfl Tryz.underlying52 ti_52 rfl (by decide)) ?_
 refine RN.p rfl (p_extract rfl rfl rfl) ?_
 refine RN.p rfl (p_extract rfl rfl rfl) ?_
 refine RN.nil ?_
 refine hK6 _ _ ?_
 refine T.cond_f rfl ?_
 refine T.seq fun K7 hK7 => ?_
 refine T.region (l := [0, 1, 2]) rfl ?_
 refine RN.p rfl (p_taOther rfl Tryz.underlying54 ti_54 rfl (by decide)) ?_
 refine RN.p rfl (p_extract rfl rfl rfl) ?_
 refine RN.p rfl (p_extract rfl rfl rfl) ?_
 refine RN.nil ?_
 refine hK7 _ _ ?_
 refine T.cond_f rfl ?_
 refine T.seq fun K8 hK8 => ?_
 refine T.region (l := [0, 1, 2]) rfl ?_
 refine RN.p rfl (p_taOther rfl Tryz.underlying55 ti_55 rfl (by decide)) ?_
 refine RN.p rfl (p_extract rfl rfl rfl) ?_
 refine RN.p rfl (p_extract rfl rfl rfl) ?_
 refine RN.nil ?_
 refine hK8 _ _ ?_
 refine T.cond_f rfl ?_
 refine T.seq fun K9 hK9 => ?_
 refine T.region (l := [0, 1, 2]) rfl ?_
 refine RN.p rfl (p_taOther rfl Tryz.underlying56 ti_56 rfl (by decide)) ?_
 refine RN.p rfl (p_extract rfl rfl rfl) ?_
 refine RN.p rfl (p_extract rfl rfl rfl) ?_
 refine RN.nil ?_
 refine hK9 _ _ ?_
 refine T.cond_f rfl ?_
 refine T.seq fun K10 hK10 => ?_
 refine T.region (l := [0, 1, 2]) rfl ?_
 refine RN.p rfl (p_taYes rfl Tryz.underlying58 rfl) ?_
 refine RN.p rfl (p_extract rfl rfl rfl) ?_
 refine RN.p rfl (p_extract rfl rfl rfl) ?_
 refine RN.nil ?_
 refine hK10 _ _ ?_
 refine T.cond_t rfl ?_
 refine T.seq fun K11 hK11 => ?_
 refine T.region (l := [0, 1]) rfl ?_
 refine RN.E rfl rfl rfl rfl (e_alloc rfl ti_58) ?_
 rintro _ _ ⟨b10, rfl, rfl⟩
 refine RN.EN rfl rfl rfl (e_storeA (vs := []) rfl ts_58 rfl rfl rfl (fun u hu => by cases hu) (i := 0) rfl (Nat.le_refl 0)) ?_
 rintro _ _ ⟨rfl, rfl⟩
 refine RN.nil ?_
 refine hK11 _ _ ?_
 refine T.seq fun K12 hK12 => ?_
 refine T.region (l := [0, 1, 2]) rfl ?_
 refine RN.p rfl (p_build rfl pl_31 ti_31 (by dsimp [layAll, lay]; rfl)) ?_
 refine RN.EN rfl rfl rfl (e_storeA (vs := rcC (Cm.mk 115 0 0 [])) rfl ts_31 rfl rfl rfl rc_one (i := 1) rfl (Nat.le_refl 4)) ?_
 rintro _ _ ⟨rfl, rfl⟩
 refine RN.a rfl ?_
 refine RN.nil ?_
 refine hK12 _ _ ?_
 refine T.ret ?_
 refine Post.block_r ?_
 refine Post.seq_r ?_
 refine bodyQ_ret [] (RetRun.cell rfl (load_cell (vs := rcC (Cm.mk 115 0 0 [])) ag_31 ts_31 (i := 1) rfl (Nat.le_refl 4) rfl) (RetRun.tmp RetRun.nil)) ⟨rfl, rfl⟩ (Ent.pull_drop (is := [2]) rfl)

theorem OfStat_spec  : Ctr Tryz.prog 8 [.iface 59 (.agg #[])] [] (fun w Ps => w = .tuple #[.agg (rcC (Cm.mk 105 0 0 [])).toArray, .bool true] ∧ Ps = []) := by
 refine Ctr.of_body Tryz.func8 rfl (by kernel_rfl) Tryz.ntmps8 rfl rfl (fun Fr => ?_)
 refine T.seq fun K1 hK1 => ?_
 refine T.region (l := [0, 1]) rfl ?_
 refine RN.E rfl rfl rfl rfl (e_alloc rfl ti_31) ?_
 rintro _ _ ⟨b2, rfl, rfl⟩
 refine RN.a rfl ?_
 refine RN.nil ?_
 refine hK1 _ _ ?_
 refine T.seq fun K2 hK2 => ?_
 refine T.seq fun K3 hK3 => ?_
 refine T.region (l := [0]) rfl ?_
 refine RN.m rfl ?_
 refine RN.nil ?_
 refine hK3 _ _ ?_
 refine T.block ?_
 refine T.seq fun K4 hK4 => ?_
 refine T.region (l := [0, 1, 2]) rfl ?_
 refine RN.p rfl (p_taOther rfl Tryz.underlying51 ti_51 rfl (by decide)) ?_
 refine RN.p rfl (p_extract rfl rfl rfl) ?_
 refine RN.p rfl (p_extract rfl rfl rfl) ?_
 refine RN.nil ?_
 refine hK4 _ _ ?_
 refine T.cond_f rfl ?_
 refine T.seq fun K5 hK5 => ?_
 refine T.region (l := [0, 1, 2]) rfl ?_
 refine RN.p rfl (p_taOther rfl Tryz.underlying46 ti_46 rfl (by decide)) ?_
 refine RN.p rfl (p_extract rfl rfl rfl) ?_
 refine RN.p rfl (p_extract rfl rfl rfl) ?_
 refine RN.nil ?_
 refine hK5 _ _ ?_
 refine T.cond_f rfl ?_
 refine T.seq fun K6 hK6 => ?_
 refine T.region (l := [0, 1, 2]) rfl ?_
 refine RN.p rfl (p_taOther rfl Tryz.underlying52 ti_52 rfl (by decide)) ?_
 refine RN.p rfl (p_extract rfl rfl rfl) ?_
 refine RN.p rfl (p_extract rfl rfl rfl) ?_
 refine RN.nil ?_
 refine hK6 _ _ ?_
 refine T.cond_f rfl ?_
 refine T.seq fun K7 hK7 => ?_
 refine T.region (l := [0, 1, 2]) rfl ?_
 refine RN.p rfl (p_taOther rfl Tryz.underlying54 ti_54 rfl (by decide)) ?_
 refine RN.p rfl (p_extract rfl rfl rfl) ?_
 refine RN.p rfl (p_extract rfl rfl rfl) ?_
 refine RN.nil ?_
 refine hK7 _ _ ?_
 refine T.cond_f rfl ?_
 refine T.seq fun K8 hK8 => ?_
 refine T.region (l := [0, 1, 2]) rfl ?_
 refine RN.p rfl (p_taOther rfl Tryz.underlying55 ti_55 rfl (by decide)) ?_
 refine RN.p rfl (p_extract rfl rfl rfl) ?_
 refine RN.p rfl (p_extract rfl rfl rfl) ?_
 refine RN.nil ?_
 refine hK8 _ _ ?_
 refine T.cond_f rfl ?_
 refine T.seq fun K9 hK9 => ?_
 refine T.region (l := [0, 1, 2]) rfl ?_
 refine RN.p rfl (p_taOther rfl Tryz.underlying56 ti_56 rfl (by decide)) ?_
 refine RN.p rfl (p_extract rfl rfl rfl) ?_
 refine RN.p rfl (p_extract rfl rfl rfl) ?_
 refine RN.nil ?_
 refine hK9 _ _ ?_
 refine T.cond_f rfl ?_
 refine T.seq fun K10 hK10 => ?_
 refine T.region (l := [0, 1, 2]) rfl ?_
 refine RN.p rfl (p_taOther rfl Tryz.underlying58 ti_58 rfl (by decide)) ?_
 refine RN.p rfl (p_extract rfl rfl rfl) ?_
 refine RN.p rfl (p_extract rfl rfl rfl) ?_
 refine RN.nil ?_
 refine hK10 _ _ ?_
 refine T.cond_f rfl ?_
 refine T.seq fun K11 hK11 => ?_
 refine T.region (l := [0, 1, 2]) rfl ?_
 refine RN.p rfl (p_taYes rfl Tryz.underlying59 rfl) ?_
 refine RN.p rfl (p_extract rfl rfl rfl) ?_
 refine RN.p rfl (p_extract rfl rfl rfl) ?_
 refine RN.nil ?_
 refine hK11 _ _ ?_
 refine T.cond_t rfl ?_
 refine T.seq fun K12 hK12 => ?_
 refine T.region (l := [0, 1]) rfl ?_
 refine RN.E rfl rfl rfl rfl (e_alloc rfl ti_59) ?_
 rintro _ _ ⟨b11, rfl, rfl⟩
 refine RN.EN rfl rfl rfl (e_storeA (vs := []) rfl ts_59 rfl rfl rfl (fun u hu => by cases hu) (i := 0) rfl (Nat.le_refl 0)) ?_
 rintro _ _ ⟨rfl, rfl⟩
 refine RN.nil ?_
 refine hK12 _ _ ?_
 refine T.seq fun K13 hK13 => ?_
 refine T.region (l := [0, 1, 2]) rfl ?_
 refine RN.p rfl (p_build rfl pl_31 ti_31 (by dsimp [layAll, lay]; rfl)) ?_
 refine RN.EN rfl rfl rfl (e_storeA (vs := rcC (Cm.mk 105 0 0 [])) rfl ts_31 rfl rfl rfl rc_one (i := 1) rfl (Nat.le_refl 4)) ?_
 rintro _ _ ⟨rfl, rfl⟩
 refine RN.a rfl ?_
 refine RN.nil ?_
 refine hK13 _ _ ?_
 refine T.ret ?_
 refine Post.block_r ?_
 refine Post.seq_r ?_
 refine bodyQ_ret [] (RetRun.cell rfl (load_cell (vs := rcC (Cm.mk 105 0 0 [])) ag_31 ts_31 (i := 1) rfl (Nat.le_refl 4) rfl) (RetRun.tmp RetRun.nil)) ⟨rfl, rfl⟩ (Ent.pull_drop (is := [2]) rfl)

theorem Of_spec (c : Cm) (hc : CmOk c) : Ctr Tryz.prog 8 [cmV c] [] (fun w Ps => w = .tuple #[.agg (rcC c).toArray, .bool true] ∧ Ps = []) := by
 obtain ⟨k, a, b, s⟩ := c
 have h := hc.kind
 rcases h with rfl | ⟨rfl, rfl | rfl | ⟨rfl, rfl | rfl | rfl | ⟨rfl, rfl | rfl⟩⟩⟩
 · exact OfWrite_spec a b s
 · exact OfRead_spec a b
 · exact OfTrim_spec a b
 · exact OfCut_spec a
 · exact OfFail_spec a
 · exact OfMount_spec a
 · exact OfShow_spec
 · exact OfStat_spec
/-- Which function tells a command of this kind. -/
def fT (k : Nat) : Nat := if k = 114 then 122 else if k = 119 then 120 else if k = 116 then 123 else if k = 99 then 124 else if k = 102 then 125 else if k = 109 then 126 else if k = 115 then 127 else 128
/-- What a command's value holds. -/
def payV (c : Cm) : Value := .agg (if c.kind = 114 then #[iC c.a, iC c.b] else if c.kind = 119 then #[iC c.a, iC c.b, strV c.data] else if c.kind = 116 then #[iC c.a, iC c.b] else if c.kind = 99 then #[iC c.a] else if c.kind = 102 then #[iC c.a] else if c.kind = 109 then #[iC c.a] else #[])
theorem c_text {e : Env} {o : Oper} {x : Operand} {c : Cm} (hc : CmOk c) (hop : o.op = .call { callee := .invoke x "Text", args := #[], argTypes := #[] }) (hr : ev e x = cmV c) : CRun Tryz.prog e o (fT c.kind) [payV c] := by
 obtain ⟨k, a, b, s⟩ := c
 have h := hc.kind
 rcases h with rfl | ⟨rfl, rfl | rfl | ⟨rfl, rfl | rfl | rfl | ⟨rfl, rfl | rfl⟩⟩⟩
 · exact c_invoke (t := 46) hop hr (by kernel_rfl)
 · exact c_invoke (t := 51) hop hr (by kernel_rfl)
 · exact c_invoke (t := 52) hop hr (by kernel_rfl)
 · exact c_invoke (t := 54) hop hr (by kernel_rfl)
 · exact c_invoke (t := 55) hop hr (by kernel_rfl)
 · exact c_invoke (t := 56) hop hr (by kernel_rfl)
 · exact c_invoke (t := 58) hop hr (by kernel_rfl)
 · exact c_invoke (t := 59) hop hr (by kernel_rfl)
theorem Text_spec (A : Assn) (hA : Glob 1 2 A) (hB : Glob2 Tryz.prog 0 A) (c : Cm) (hc : CmOk c) : Ctr Tryz.prog (fT c.kind) [payV c] [A] (fun w Ps => w = strV (textF c) ∧ Ps = [A]) := by
 obtain ⟨k, a, b, s⟩ := c
 have h := hc.kind
 have ha := hc.a
 have hb := hc.b
 have hd := hc.data
 rcases h with rfl | ⟨rfl, rfl | rfl | ⟨rfl, rfl | rfl | rfl | ⟨rfl, rfl | rfl⟩⟩⟩
 · exact TWrite_spec A hA hB a b s ha hb hd
 · exact TRead_spec A hB a b ha hb
 · exact TTrim_spec A hB a b ha hb
 · exact TCut_spec A hB a ha
 · exact TFail_spec A hB a ha
 · exact TMount_spec A hB a ha
 · exact TShow_spec A
 · exact TStat_spec A
theorem keyRC : KeyTy Tryz.prog 31 := ⟨by kernel_rfl, by kernel_rfl, by kernel_rfl, by kernel_rfl⟩
theorem lit_u8 {n : Nat} (d : Nat) (h : n < 256) : Tryz.prog.keyLits (d + 1) 5 [kC n] = some [.int .u8 (n : Int)] := by
 unfold Program.keyLits
 rw [Tryz.underlying5]
 have : (Lit.int .u8 (n : Int)).wf = true := by
  simp [Lit.wf, IntKind.min, IntKind.max, IntKind.signed, IntKind.bits]
  omega
 simp [kC, this]
theorem lit_i64 {n : Int} (d : Nat) (h : -999999999 ≤ n ∧ n ≤ 999999999) : Tryz.prog.keyLits (d + 1) 3 [iC n] = some [.int .i64 n] := by
 unfold Program.keyLits
 rw [Tryz.underlying3]
 have : (Lit.int .i64 n).wf = true := by
  simp [Lit.wf, IntKind.min, IntKind.max, IntKind.signed, IntKind.bits]
  omega
 simp [iC, this]
theorem lit_str {l : List UInt8} (d : Nat) (h : l.length ≤ 100000000) : Tryz.prog.keyLits (d + 1) 9 [strV l] = some [.string l] := by
 unfold Program.keyLits
 rw [Tryz.underlying9]
 have : (ByteArray.mk l.toArray).size ≤ maxLen := by show l.toArray.size ≤ 9223372036854775807; simp; omega
 simp [strV, this]
theorem plainRC {c : Cm} (hc : CmOk c) : Plain Tryz.prog 31 (rcC c) := by
 have hk : c.kind < 256 := by have := hc.kind; omega
 refine ⟨3, [.int .u8 (c.kind : Int), .int .i64 c.a, .int .i64 c.b, .string c.data], ?_⟩
 unfold Program.keyLits
 rw [Tryz.underlying31]
 have hcl : Tryz.prog.cellsOf 31 = 4 := by kernel_rfl
 have c3 : Tryz.prog.cellsOf 3 = 1 := by kernel_rfl
 have c5 : Tryz.prog.cellsOf 5 = 1 := by kernel_rfl
 have c9 : Tryz.prog.cellsOf 9 = 1 := by kernel_rfl
 have hl : (rcC c).length = 4 := rfl
 simp only [hcl, hl]
 rw [if_pos ⟨trivial, by decide +kernel⟩]
 simp only [rcC, List.mapM_cons, List.mapM_nil, c3, c5, c9, List.drop_zero, List.drop_succ_cons, List.take_succ_cons, List.take_zero, lit_u8 1 hk, lit_i64 1 hc.a, lit_i64 1 hc.b, lit_str 1 hc.data]
 rfl
theorem cm_row {cs : List Cm} {rest : List Value} {i : Nat} (hi : i < cs.length) : (cs.map cmV ++ rest)[0 + i]? = some (cmV cs[i]) := by
 rw [Nat.zero_add, List.getElem?_append_left (by simpa using hi), List.getElem?_map, List.getElem?_eq_getElem hi]
 rfl
theorem rc_row : ∀ {cs : List Cm} {rest : List Value} {i : Nat} (hi : i < cs.length), (((cs.map rcC).flatten ++ rest).drop (0 + i * 4)).take 4 = rcC cs[i]
 | [], _, _, hi => absurd hi (Nat.not_lt_zero _)
 | c :: cs, rest, 0, _ => rfl
 | c :: cs, rest, i + 1, hi => by
  rw [List.map_cons, List.flatten_cons, List.append_assoc, show 0 + (i + 1) * 4 = 4 + (0 + i * 4) from by omega, ← List.drop_drop]
  exact rc_row (Nat.lt_of_succ_lt_succ hi)

end Go.Proofs.YtokbjejbgbdkoaaGreatDoor
namespace Go.Proofs.YtokbjejbgbdkoaaGreatDoor
open Go Go.Sl Go.Proofs
set_option maxRecDepth 20000
open Go.Mo Go.Proofs Go.Shelf Go.RowKit Go.Evl
theorem ScriptReads_walk (A : Assn) (hA : Glob 1 2 A) (hB : Glob2 Tryz.prog 0 A) (haw : Ctr Tryz.prog 5 [] [A] (fun v Ps => v = .bool true ∧ Ps = [A])) (t : List UInt8) (ht : t.length ≤ 100000000) : Ctr Tryz.prog 3 [strV t] [A] (fun w Ps => w = .bool true ∧ Ps = [A]) := by
 refine Ctr.of_body Tryz.func3 rfl (by kernel_rfl) Tryz.ntmps3 rfl rfl (fun Fr => ?_)
 refine T.seq fun K1 hK1 => ?_
 refine T.region (l := [0]) rfl ?_
 refine RN.a rfl ?_
 refine RN.nil ?_
 refine hK1 _ _ ?_
 refine T.seq fun K2 hK2 => ?_
 refine T.seq fun K3 hK3 => ?_
 refine T.region (l := [0, 1]) rfl ?_
 refine RN.C [0] rfl rfl rfl rfl (c_call rfl rfl) (haw) rfl ?_
 rintro _ _ ⟨rfl, rfl⟩
 refine RN.p rfl (by first | exact (p_not_dec rfl rfl) | exact (p_not rfl rfl)) ?_
 refine RN.nil ?_
 refine hK3 _ _ ?_
 refine T.known 13 rfl (show _ = Value.bool false from rfl) ?_
 refine T.cond_f rfl ?_
 refine T.skip ?_
 refine hK2 _ _ ?_
 refine T.seq fun K4 hK4 => ?_
 refine T.region (l := [0, 1, 2, 3, 4, 5, 6, 7, 8]) rfl ?_
 refine RN.m rfl ?_
 refine RN.C [0] rfl rfl rfl rfl (c_call rfl rfl) (Parse_spec A hA hB t) rfl ?_
 rintro _ _ ⟨v3, cs, n, e, rfl, hv3, hq, rfl⟩
 refine RN.m rfl ?_
 refine RN.p rfl (p_extract rfl rfl rfl) ?_
 refine RN.p rfl (p_extract rfl rfl rfl) ?_
 refine RN.p rfl (p_extract rfl rfl rfl) ?_
 refine RN.a rfl ?_
 refine RN.a rfl ?_
 refine RN.a rfl ?_
 refine RN.nil ?_
 refine hK4 _ _ ?_
 refine T.seq fun K5 hK5 => ?_
 refine T.region (l := [0, 1, 2, 3, 4, 5, 6, 7, 8]) rfl ?_
 refine RN.m rfl ?_
 refine RN.C [] rfl rfl rfl rfl (c_call rfl rfl) (RParse_spec t ht) rfl ?_
 rintro _ _ ⟨v6, cs2, n2, e2, rfl, hv6, hq2, rfl⟩
 obtain ⟨rfl, rfl, rfl⟩ := hq.unique hq2
 have hok := parse_ok ht hq
 refine RN.m rfl ?_
 refine RN.p rfl (p_extract rfl rfl rfl) ?_
 refine RN.p rfl (p_extract rfl rfl rfl) ?_
 refine RN.p rfl (p_extract rfl rfl rfl) ?_
 refine RN.a rfl ?_
 refine RN.a rfl ?_
 refine RN.a rfl ?_
 refine RN.nil ?_
 refine hK5 _ _ ?_
 refine T.seq fun K6 hK6 => ?_
 refine T.seq fun K7 hK7 => ?_
 refine T.region (l := [0, 1, 2, 3, 4, 5, 6, 7, 8, 9, 10, 11, 12, 13, 14]) rfl ?_
 refine RN.m rfl ?_
 refine RN.m rfl ?_
 refine RN.p rfl (p_neq rfl rfl rfl) ?_
 refine RN.m rfl ?_
 refine RN.known 29 rfl (show _ = Value.bool false from congrArg Value.bool (decide_eq_false (fun h => h rfl))) ?_
 refine RN.m rfl ?_
 refine RN.m rfl ?_
 refine RN.p rfl (p_neq rfl rfl rfl) ?_
 refine RN.pf rfl ?_
 refine RN.m rfl ?_
 refine RN.known 34 rfl (show _ = Value.bool false from congrArg Value.bool (decide_eq_false (fun h => h rfl))) ?_
 refine RN.m rfl ?_
 refine RN.u rfl (q_len_vec rfl Tryz.underlying23 rfl (i := 1) rfl) ?_
 refine RN.m rfl ?_
 refine RN.u rfl (q_len_vec rfl Tryz.underlying27 rfl (i := 0) rfl) ?_
 refine RN.p rfl (p_neq rfl rfl rfl) ?_
 refine RN.pf rfl ?_
 refine RN.nil ?_
 refine hK7 _ _ ?_
 refine T.known 40 rfl (show _ = Value.bool false from congrArg Value.bool (decide_eq_false (fun h => h rfl))) ?_
 refine T.cond_f rfl ?_
 refine T.skip ?_
 refine hK6 _ _ ?_
 refine T.seq fun K8 hK8 => ?_
 refine T.seq fun K9 hK9 => ?_
 refine T.region (l := [0]) rfl ?_
 refine RN.a rfl ?_
 refine RN.nil ?_
 refine hK9 _ _ ?_
 refine T.block ?_
 refine T.loop (G := Nat) (fun i => i ≤ cs.length) (fun i => [(3, v3), (6, v6), (9, intV i)]) (fun i => [vec 31 4 v6 cs.length ((cs.map rcC).flatten), vec 35 1 v3 cs.length (cs.map cmV), A, Fr]) (fun i => cs.length - i) 0 (Nat.zero_le _) (LiveIs.cons rfl (LiveIs.cons rfl (LiveIs.cons rfl LiveIs.nil))) (Ent.refl _) ?_
 rintro i e10 hin
 refine T.seq fun K11 hK11 => ?_
 refine T.seq fun K12 hK12 => ?_
 refine T.region (l := [0, 1, 2, 3]) rfl ?_
 refine RN.m rfl ?_
 refine RN.m rfl ?_
 refine RN.u rfl (q_len_vec rfl Tryz.underlying23 rfl (i := 1) rfl) ?_
 refine RN.p rfl (p_lss rfl rfl rfl) ?_
 refine RN.nil ?_
 refine hK12 _ _ ?_
 first | refine T.cond_dec rfl (fun h44 => ?_) (fun h44 => ?_) | refine T.cond rfl (fun h44 => ?_) (fun h44 => ?_)
 ·
  have hlt : i < cs.length := by omega
  have hci := hok _ (List.getElem_mem hlt)
  refine T.openVec 0 rfl (by omega) ?_
  rintro b6 cap6 rest6 rfl d1 d2 d3
  refine T.openVec 1 rfl (by omega) ?_
  rintro b3 cap3 rest3 rfl c1 c2 c3
  refine T.skip ?_
  refine hK11 _ _ ?_
  refine T.seq fun K13 hK13 => ?_
  refine T.block ?_
  refine T.seq fun K14 hK14 => ?_
  refine T.region (l := [0, 1, 2, 3, 4, 5, 6, 7, 8, 9, 10]) rfl ?_
  refine RN.m rfl ?_
  refine RN.m rfl ?_
  refine RN.p rfl (by first | exact (p_indexAddr1N rfl Tryz.underlying23 ts_35 rfl rfl (by omega)) | exact (p_indexAddr1 rfl Tryz.underlying23 ts_35 rfl rfl (by omega))) ?_
  refine RN.u rfl (q_load (v := cmV cs[i]) rfl sc_35 rfl (i := 1) rfl (cm_row hlt)) ?_
  refine RN.C [] rfl rfl rfl rfl (c_call rfl rfl) (Of_spec cs[i] hci) rfl ?_
  rintro _ _ ⟨rfl, rfl⟩
  refine RN.m rfl ?_
  refine RN.p rfl (p_extract rfl rfl rfl) ?_
  refine RN.p rfl (p_extract rfl rfl rfl) ?_
  refine RN.E rfl rfl rfl rfl (e_alloc rfl ti_31) ?_
  rintro _ _ ⟨b10, rfl, rfl⟩
  refine RN.EN rfl rfl rfl (e_storeA (vs := rcC cs[i]) rfl ts_31 rfl rfl rfl rc_one (i := 0) rfl (Nat.le_refl 4)) ?_
  rintro _ _ ⟨rfl, rfl⟩
  refine RN.a rfl ?_
  refine RN.nil ?_
  refine hK14 _ _ ?_
  refine T.seq fun K15 hK15 => ?_
  refine T.regionD (z := 20) (Bs := [row b10 31 (rcC cs[i]), row b6 31 ((cs.map rcC).flatten ++ rest6), row b3 35 (cs.map cmV ++ rest3)]) (l := [(0, .pure), (1, .pure), (2, .pure), (3, .load), (4, .pure), (5, .pure), (6, .pure), (7, .load), (8, .pure), (9, .pure), (10, .pure), (11, .pure), (12, .pure), (13, .pure), (14, .load), (16, .load), (15, .eff), (17, .eff), (18, .pure), (19, .pure)]) mixed (by kernel_rfl) (by first | exact Ent.refl _ | exact Ent.pull_drop (is := [0, 0, 0]) rfl | exact Ent.pull_drop (is := [1, 1, 1]) rfl | exact Ent.pull_drop (is := [2, 2, 2]) rfl | exact Ent.pull_drop (is := [3, 3, 3]) rfl | exact Ent.pull_drop (is := [4, 4, 4]) rfl | exact Ent.pull_drop (is := [5, 5, 5]) rfl | exact Ent.pull_drop (is := [6, 6, 6]) rfl | exact Ent.pull_drop (is := [7, 7, 7]) rfl) ?_
  refine RD.n rfl (p_move rfl (by conv => lhs; whnf)) ?_
  refine RD.n rfl (by first | exact (p_not_dec rfl rfl) | exact (p_not rfl rfl)) ?_
  refine RD.n rfl (p_move rfl (by conv => lhs; whnf)) ?_
  refine RD.known 57 rfl (show _ = Value.bool false from rfl) ?_
  refine RD.qq rfl rfl rfl rfl (q_loadA (vs := rcC cs[i]) rfl ag_31 ts_31 rfl (i := 0) rfl (Nat.le_refl 4) rfl) (by first | exact Ent.refl _ | exact Ent.pull_drop (is := [0, 0, 0]) rfl | exact Ent.pull_drop (is := [1, 1, 1]) rfl | exact Ent.pull_drop (is := [2, 2, 2]) rfl) ?_
  refine RD.n rfl (p_move rfl (by conv => lhs; whnf)) ?_
  refine RD.n rfl (p_move rfl (by conv => lhs; whnf)) ?_
  refine RD.n rfl (by first | exact (p_indexAddrN rfl Tryz.underlying27 ts_31 rfl rfl (by omega)) | exact (p_indexAddr rfl Tryz.underlying27 ts_31 rfl rfl (by omega))) ?_
  refine RD.qq rfl rfl rfl rfl (q_loadA (vs := rcC cs[i]) rfl ag_31 ts_31 rfl (i := 1) rfl (by rw [List.length_append, rc_len]; omega) (rc_row hlt)) (by first | exact Ent.refl _ | exact Ent.pull_drop (is := [0, 0, 0]) rfl | exact Ent.pull_drop (is := [1, 1, 1]) rfl | exact Ent.pull_drop (is := [2, 2, 2]) rfl) ?_
  refine RD.n rfl (p_aggneq (p := True) rfl keyRC rfl rfl (plainRC hci) (plainRC hci) ⟨fun _ => rfl, fun _ => trivial⟩) ?_
  refine RD.n rfl (p_pick_f rfl rfl (by conv => lhs; whnf)) ?_
  refine RD.n rfl (p_move rfl (by conv => lhs; whnf)) ?_
  refine RD.known 65 rfl (show _ = Value.bool false from congrArg Value.bool (decide_eq_false (fun h => h trivial))) ?_
  refine RD.n rfl (p_move rfl (by conv => lhs; whnf)) ?_
  refine RD.n rfl (p_move rfl (by conv => lhs; whnf)) ?_
  refine RD.n rfl (by first | exact (p_indexAddr1N rfl Tryz.underlying23 ts_35 rfl rfl (by omega)) | exact (p_indexAddr1 rfl Tryz.underlying23 ts_35 rfl rfl (by omega))) ?_
  refine RD.qq rfl rfl rfl rfl (q_load (v := cmV cs[i]) rfl sc_35 rfl (i := 2) rfl (cm_row hlt)) (by first | exact Ent.refl _ | exact Ent.pull_drop (is := [0, 0, 0]) rfl | exact Ent.pull_drop (is := [1, 1, 1]) rfl | exact Ent.pull_drop (is := [2, 2, 2]) rfl) ?_
  refine RD.qq rfl rfl rfl rfl (q_loadA (vs := rcC cs[i]) rfl ag_31 ts_31 rfl (i := 0) rfl (Nat.le_refl 4) rfl) (by first | exact Ent.refl _ | exact Ent.pull_drop (is := [0, 0, 0]) rfl | exact Ent.pull_drop (is := [1, 1, 1]) rfl | exact Ent.pull_drop (is := [2, 2, 2]) rfl) ?_
  refine RD.C [3] rfl rfl rfl rfl (c_text hci rfl rfl) (Text_spec A hA hB cs[i] hci) rfl (by rintro _ _ ⟨rfl, rfl⟩; exact .inl (by first | exact Ent.refl _ | exact Ent.pull_drop (is := [0, 0, 0]) rfl | exact Ent.pull_drop (is := [1, 1, 1]) rfl | exact Ent.pull_drop (is := [2, 2, 2]) rfl)) ?_
  rintro _ _ ⟨rfl, rfl⟩
  refine RD.C [] rfl rfl rfl rfl (c_call rfl rfl) (RText_spec cs[i] hci) rfl (by rintro _ _ ⟨rfl, rfl⟩; exact .inl (by first | exact Ent.refl _ | exact Ent.pull_drop (is := [0, 0, 0]) rfl | exact Ent.pull_drop (is := [1, 1, 1]) rfl | exact Ent.pull_drop (is := [2, 2, 2]) rfl | exact Ent.pull_drop (is := [3, 3, 3]) rfl | exact Ent.pull_drop (is := [4, 4, 4]) rfl | exact Ent.pull_drop (is := [5, 5, 5]) rfl | exact Ent.pull_drop (is := [6, 6, 6]) rfl | exact Ent.pull_drop (is := [7, 7, 7]) rfl)) ?_
  rintro _ _ ⟨rfl, rfl⟩
  refine RD.n rfl (p_sneq rfl rfl rfl) ?_
  refine RD.n rfl (p_pick_f rfl rfl (by conv => lhs; whnf)) ?_
  refine RD.nil ?_
  refine hK15 _ _ ?_
  refine T.known 74 rfl (show _ = Value.bool false from congrArg Value.bool (decide_eq_false (fun h => h rfl))) ?_
  refine T.cond_f rfl ?_
  refine T.skip ?_
  refine hK13 _ _ ?_
  refine T.region (l := [0, 1, 2]) rfl ?_
  refine RN.m rfl ?_
  refine RN.p rfl (by first | exact (p_addN (b := 1) rfl rfl rfl (by omega)) | exact (p_add rfl rfl rfl (by omega))) ?_
  refine RN.a rfl ?_
  refine RN.nil ?_
  refine ⟨i + 1, hlt, (by show _ - (i + 1) < _ - i; omega), (LiveIs.cons rfl (LiveIs.cons rfl (LiveIs.cons rfl LiveIs.nil))), ((Ent.pull_drop (is := [2, 2, 0, 1]) rfl).trans (Ent.cons (vec_of_row (rc_len _) d1 d2 d3) (Ent.cons (vec_of_row (by simp) c1 c2 c3) (Ent.refl _))))⟩
 ·
  refine T.exit ?_
  refine Post.seq_x ?_
  refine Post.seq_x ?_
  refine Post.block_hit ?_
  refine hK8 _ _ ?_
  refine T.seq fun K16 hK16 => ?_
  refine T.region (l := [0]) rfl ?_
  refine RN.a rfl ?_
  refine RN.nil ?_
  refine hK16 _ _ ?_
  refine T.ret ?_
  refine bodyQ_ret [A] (RetRun.tmp RetRun.nil) ⟨rfl, rfl⟩ (Ent.pull_drop (is := [2, 2]) rfl)

end Go.Proofs.YtokbjejbgbdkoaaGreatDoor
