/-
 Volumes: walked.
-/
import Derived.Test.YtbbgajjonodlfaaGreatGYvV1
import Derived.Test.YtbbgajjonodlfaaGreatGSl26
import Derived.Test.YtbbgajjonodlfaaGreatGModelVo
import Derived.Test.YtbbgajjonodlfaaGreatGYvM1
set_option linter.unusedVariables false
set_option linter.unusedSimpArgs false
namespace Go.Proofs.YtbbgajjonodlfaaGreat
open Go Go.Sl Go.Proofs
set_option maxRecDepth 20000
open Go.Mo Go.Evl
theorem Volumes_spec (s a c : Nat) (es : List VE) (hes : es.length = 8) : Ctr Tryz.prog 17 [ptr s 0] [row s 72 (stC 24 a c es)] (fun v Ps => v.oneCell' = true ∧ Ps = [vec 49 3 v (volsE es).length (flE (volsE es)), row s 72 (stC 24 a c es)]) := by
 refine Ctr.of_body Tryz.func17 rfl (by kernel_rfl) Tryz.ntmps17 rfl rfl (fun Fr => ?_)
 refine T.seq fun K1 hK1 => ?_
 refine T.region (l := [0]) rfl ?_
 refine RN.a rfl ?_
 refine RN.nil ?_
 refine hK1 _ _ ?_
 refine T.seq fun K2 hK2 => ?_
 refine T.region (l := [0]) rfl ?_
 refine RN.a rfl ?_
 refine RN.nil ?_
 refine hK2 _ _ ?_
 refine T.seq fun K3 hK3 => ?_
 refine T.seq fun K4 hK4 => ?_
 refine T.ent (Ent.vec_nil' (el := 49) (sz := 3)) ?_
 refine T.region (l := [0, 1, 2, 3, 4]) rfl ?_
 refine RN.m rfl ?_
 refine RN.p rfl (p_nilCheck rfl rfl) ?_
 refine RN.p rfl (p_fieldAddr rfl fa_72_2 rfl) ?_
 refine RN.u rfl (q_loadA rfl ag_70 ts_70 rfl (i := 1) rfl (by rw [stC_length hes]; decide) (stC_all hes)) ?_
 refine RN.m rfl ?_
 refine RN.nil ?_
 refine hK4 _ _ ?_
 refine T.block ?_
 refine T.loop (G := Nat × Value) (fun ⟨k, v⟩ => k ≤ 8 ∧ v.oneCell' = true) (fun ⟨k, v⟩ => [(3, v), (9, .agg (flE es).toArray), (10, intV k)]) (fun ⟨k, v⟩ => [vec 49 3 v (volsE (es.take k)).length (flE (volsE (es.take k))), row s 72 (stC 24 a c es), Fr]) (fun ⟨k, v⟩ => 8 - k) (0, .slice none 0 0) ⟨Nat.zero_le _, rfl⟩ (LiveIs.cons rfl (LiveIs.cons rfl (LiveIs.cons rfl LiveIs.nil))) (Ent.refl _) ?_
 rintro ⟨k, v⟩ e5 ⟨hk, hv⟩
 dsimp only
 refine T.seq fun K6 hK6 => ?_
 refine T.region (l := [0]) rfl ?_
 refine RN.p rfl (p_lss rfl rfl rfl) ?_
 refine RN.nil ?_
 refine hK6 _ _ ?_
 refine T.seq fun K7 hK7 => ?_
 refine T.cond_dec rfl (fun h11 => ?_) (fun h11 => ?_)
 ·
  have hk8 : k < es.length := by omega
  have hvl : (volsE (es.take k)).length ≤ k := Nat.le_trans (vols_len _) (by rw [List.length_take]; omega)
  refine T.skip ?_
  refine hK7 _ _ ?_
  refine T.seq fun K8 hK8 => ?_
  refine T.block ?_
  refine T.seq fun K9 hK9 => ?_
  refine T.region (l := [0, 1, 2]) rfl ?_
  refine RN.p rfl (p_index_aggA rfl Tryz.underlying70 ts_49 ag_49 rfl rfl (by omega) (flE_get (show k < es.length by omega))) ?_
  refine RN.E rfl rfl rfl rfl (e_alloc rfl ti_49) ?_
  rintro _ _ ⟨b5, rfl, rfl⟩
  refine RN.EN rfl rfl rfl (by exact (e_storeA rfl ts_49 rfl rfl rfl (VE.cells_one _) (i := 0) rfl (by (simp; done)))) ?_
  rintro _ _ ⟨rfl, rfl⟩
  refine RN.nil ?_
  refine hK9 _ _ ?_
  refine T.seq fun K10 hK10 => ?_
  refine T.region (l := [0, 1, 2]) rfl ?_
  refine RN.p rfl (p_fieldAddr rfl fa_49_2 rfl) ?_
  refine RN.u rfl (by exact (q_load rfl sc_3 rfl (i := 0) rfl rfl)) ?_
  refine RN.p rfl (p_gtr rfl rfl rfl) ?_
  refine RN.nil ?_
  refine hK10 _ _ ?_
  refine T.cond_dec rfl (fun h15 => ?_) (fun h15 => ?_)
  ·
   have hpos : 0 < es[k].len := by omega
   refine T.region (l := [0, 1, 2, 3, 4]) rfl ?_
   refine RN.m rfl ?_
   refine RN.u rfl (by exact (q_loadA rfl ag_49 ts_49 rfl (i := 0) rfl (by exact Nat.le_refl _) rfl)) ?_
   refine RN.E rfl rfl rfl rfl (e_buildSlice1A rfl Tryz.underlying45 ti_49 rfl rfl (by rfl) (by decide)) ?_
   rintro _ _ ⟨b18, rfl, rfl⟩
   refine RN.E rfl rfl rfl rfl (e_append rfl Tryz.underlying45 ni_45 ti_49 rfl rfl (i := 2) rfl (src_full (i := 0) rfl rfl) (VE.cells_one _) (by omega)) ?_
   rintro v19 _ ⟨hv19, rfl⟩
   refine RN.a rfl ?_
   refine RN.nil ?_
   refine hK8 _ _ ?_
   refine T.region (l := [0, 1]) rfl ?_
   refine RN.p rfl (by exact (p_addN (b := 1) rfl rfl rfl (by omega))) ?_
   refine RN.m rfl ?_
   refine RN.nil ?_
   refine ⟨(k + 1, v19), ⟨by omega, hv19⟩, (by simp; omega), (LiveIs.cons rfl (LiveIs.cons rfl (LiveIs.cons rfl LiveIs.nil))), ?_⟩
   dsimp only
   rw [vols_take hk8, if_pos hpos, flE_append, List.length_append]
   exact Ent.pull_drop (is := [2, 2, 2]) rfl
  ·
   have hpos : ¬ 0 < es[k].len := by omega
   refine T.skip ?_
   refine hK8 _ _ ?_
   refine T.region (l := [0, 1]) rfl ?_
   refine RN.p rfl (by exact (p_addN (b := 1) rfl rfl rfl (by omega))) ?_
   refine RN.m rfl ?_
   refine RN.nil ?_
   refine ⟨(k + 1, v), ⟨by omega, hv⟩, (by simp; omega), (LiveIs.cons rfl (LiveIs.cons rfl (LiveIs.cons rfl LiveIs.nil))), ?_⟩
   dsimp only
   rw [vols_take hk8, if_neg hpos]
   exact Ent.pull_drop (is := [1, 1, 1]) rfl
 ·
  have e8 : es.take k = es := List.take_of_length_le (by omega)
  refine T.exit ?_
  refine Post.seq_x ?_
  refine Post.seq_x ?_
  refine Post.block_hit ?_
  refine hK3 _ _ ?_
  refine T.seq fun K11 hK11 => ?_
  refine T.region (l := [0, 1]) rfl ?_
  refine RN.m rfl ?_
  refine RN.a rfl ?_
  refine RN.nil ?_
  refine hK11 _ _ ?_
  refine T.ret ?_
  rw [e8]
  refine bodyQ_ret [vec 49 3 v (volsE es).length (flE (volsE es)), row s 72 (stC 24 a c es)] (RetRun.tmp RetRun.nil) ⟨hv, rfl⟩ (Ent.refl _)

theorem find_spec (s a c : Nat) (es : List VE) (name : List UInt8) (hes : es.length = 8) : Ctr Tryz.prog 45 [ptr s 0, strV name] [row s 72 (stC 24 a c es)] (fun v Ps => v = .tuple #[.int .i64 (((findE es name).getD 0 : Nat) : Int), .bool (findE es name).isSome] ∧ Ps = [row s 72 (stC 24 a c es)]) := by
 refine Ctr.of_body Tryz.func45 rfl (by kernel_rfl) Tryz.ntmps45 rfl rfl (fun Fr => ?_)
 refine T.seq fun K1 hK1 => ?_
 refine T.region (l := [0, 1]) rfl ?_
 refine RN.a rfl ?_
 refine RN.a rfl ?_
 refine RN.nil ?_
 refine hK1 _ _ ?_
 refine T.seq fun K2 hK2 => ?_
 refine T.seq fun K3 hK3 => ?_
 refine T.region (l := [0, 1, 2, 3, 4]) rfl ?_
 refine RN.m rfl ?_
 refine RN.p rfl (p_nilCheck rfl rfl) ?_
 refine RN.p rfl (p_fieldAddr rfl fa_72_2 rfl) ?_
 refine RN.u rfl (q_loadA rfl ag_70 ts_70 rfl (i := 0) rfl (by rw [stC_length hes]; decide) (stC_all hes)) ?_
 refine RN.m rfl ?_
 refine RN.nil ?_
 refine hK3 _ _ ?_
 refine T.block ?_
 refine T.loop (G := Nat) (fun k => k ≤ 8 ∧ ∀ j (hj : j < es.length), j < k → ¬ (0 < es[j].len ∧ es[j].name = name)) (fun k => [(1, strV name), (11, .agg (flE es).toArray), (12, intV k)]) (fun k => [row s 72 (stC 24 a c es), Fr]) (fun k => 8 - k) 0 ⟨Nat.zero_le _, fun j hj h => absurd h (Nat.not_lt_zero _)⟩ (LiveIs.cons rfl (LiveIs.cons rfl (LiveIs.cons rfl LiveIs.nil))) (Ent.refl _) ?_
 rintro k e4 ⟨hk, hno⟩
 refine T.seq fun K5 hK5 => ?_
 refine T.region (l := [0]) rfl ?_
 refine RN.p rfl (p_lss rfl rfl rfl) ?_
 refine RN.nil ?_
 refine hK5 _ _ ?_
 refine T.seq fun K6 hK6 => ?_
 refine T.cond_dec rfl (fun h13 => ?_) (fun h13 => ?_)
 ·
  have hk8 : k < es.length := by omega
  refine T.skip ?_
  refine hK6 _ _ ?_
  refine T.seq fun K7 hK7 => ?_
  refine T.block ?_
  refine T.seq fun K8 hK8 => ?_
  refine T.region (l := [0, 1, 2, 3, 4]) rfl ?_
  refine RN.m rfl ?_
  refine RN.p rfl (p_index_aggA rfl Tryz.underlying70 ts_49 ag_49 rfl rfl (by omega) (flE_get (show k < es.length by omega))) ?_
  refine RN.E rfl rfl rfl rfl (e_alloc rfl ti_49) ?_
  rintro _ _ ⟨b7, rfl, rfl⟩
  refine RN.a rfl ?_
  refine RN.EN rfl rfl rfl (by exact (e_storeA rfl ts_49 rfl rfl rfl (VE.cells_one _) (i := 0) rfl (by (simp; done)))) ?_
  rintro _ _ ⟨rfl, rfl⟩
  refine RN.nil ?_
  refine hK8 _ _ ?_
  refine T.seq fun K9 hK9 => ?_
  refine T.region (l := [0, 1, 2, 3, 4, 5, 6, 7, 8]) rfl ?_
  refine RN.p rfl (p_fieldAddr rfl fa_49_2 rfl) ?_
  refine RN.u rfl (by exact (q_load rfl sc_3 rfl (i := 0) rfl rfl)) ?_
  refine RN.p rfl (p_gtr rfl rfl rfl) ?_
  refine RN.m rfl ?_
  refine RN.split_dec 19 rfl (fun h19 => ?_) (fun h19 => ?_)
  ·
   refine RN.p rfl (p_fieldAddr rfl fa_49_0 rfl) ?_
   refine RN.u rfl (by exact (q_load rfl sc_9 rfl (i := 0) rfl rfl)) ?_
   refine RN.m rfl ?_
   refine RN.p rfl (p_seql rfl rfl rfl) ?_
   refine RN.pt rfl ?_
   refine RN.nil ?_
   refine hK9 _ _ ?_
   refine T.cond_dec rfl (fun h24 => ?_) (fun h24 => ?_)
   ·
    refine T.seq fun K10 hK10 => ?_
    refine T.region (l := [0, 1, 2]) rfl ?_
    refine RN.m rfl ?_
    refine RN.a rfl ?_
    refine RN.a rfl ?_
    refine RN.nil ?_
    refine hK10 _ _ ?_
    refine T.ret ?_
    refine Post.block_r ?_
    refine Post.seq_r ?_
    refine Post.seq_r ?_
    refine Post.block_r ?_
    refine Post.seq_r ?_
    refine bodyQ_ret [row s 72 (stC 24 a c es)] (RetRun.tmp (RetRun.tmp RetRun.nil)) ⟨by rw [findE_some hk8 ⟨by omega, h24⟩ (fun j hj h => hno j hj h)]; rfl, rfl⟩ (Ent.pull_drop (is := [1, 1]) rfl)
   ·
    refine T.skip ?_
    refine hK7 _ _ ?_
    refine T.region (l := [0, 1]) rfl ?_
    refine RN.p rfl (by exact (p_addN (b := 1) rfl rfl rfl (by omega))) ?_
    refine RN.m rfl ?_
    refine RN.nil ?_
    refine ⟨k + 1, ⟨by omega, fun j hj h => by
     by_cases e : j = k
     · subst e; exact fun hh => h24 hh.2
     · exact hno j hj (by omega)⟩, (by omega), (LiveIs.cons rfl (LiveIs.cons rfl (LiveIs.cons rfl LiveIs.nil))), (Ent.pull_drop (is := [1, 1]) rfl)⟩
  ·
   refine RN.no0 rfl ?_
   refine RN.no0 rfl ?_
   refine RN.no0 rfl ?_
   refine RN.no0 rfl ?_
   refine RN.pf rfl ?_
   refine RN.nil ?_
   refine hK9 _ _ ?_
   refine T.cond_f rfl ?_
   refine T.skip ?_
   refine hK7 _ _ ?_
   refine T.region (l := [0, 1]) rfl ?_
   refine RN.p rfl (by exact (p_addN (b := 1) rfl rfl rfl (by omega))) ?_
   refine RN.m rfl ?_
   refine RN.nil ?_
   refine ⟨k + 1, ⟨by omega, fun j hj h => by
    by_cases e : j = k
    · subst e; exact fun hh => h19 (by omega)
    · exact hno j hj (by omega)⟩, (by omega), (LiveIs.cons rfl (LiveIs.cons rfl (LiveIs.cons rfl LiveIs.nil))), (Ent.pull_drop (is := [1, 1]) rfl)⟩
 ·
  refine T.exit ?_
  refine Post.seq_x ?_
  refine Post.seq_x ?_
  refine Post.block_hit ?_
  refine hK2 _ _ ?_
  refine T.seq fun K11 hK11 => ?_
  refine T.region (l := [0, 1]) rfl ?_
  refine RN.a rfl ?_
  refine RN.a rfl ?_
  refine RN.nil ?_
  refine hK11 _ _ ?_
  refine T.ret ?_
  refine bodyQ_ret [row s 72 (stC 24 a c es)] (RetRun.tmp (RetRun.tmp RetRun.nil)) ⟨by rw [findE_none (fun j hj => hno j hj (by omega))]; rfl, rfl⟩ (Ent.refl _)

theorem Free_spec (s a c : Nat) (es : List VE) (hi : VInv c es) (hc : c ≤ 512) : Ctr Tryz.prog 19 [ptr s 0] [row s 72 (stC 24 a c es)] (fun v Ps => v = .int .i64 ((c : Int) - 8 - (sumL es : Nat)) ∧ Ps = [row s 72 (stC 24 a c es)]) := by
 refine Ctr.of_body Tryz.func19 rfl (by kernel_rfl) Tryz.ntmps19 rfl rfl (fun Fr => ?_)
 have hes := hi.len
 refine T.seq fun K1 hK1 => ?_
 refine T.region (l := [0]) rfl ?_
 refine RN.a rfl ?_
 refine RN.nil ?_
 refine hK1 _ _ ?_
 refine T.seq fun K2 hK2 => ?_
 refine T.region (l := [0, 1, 2, 3, 4, 5]) rfl ?_
 refine RN.m rfl ?_
 refine RN.p rfl (p_nilCheck rfl rfl) ?_
 refine RN.p rfl (p_fieldAddr rfl fa_72_1 rfl) ?_
 refine RN.u rfl (q_load rfl sc_3 rfl (i := 0) rfl rfl) ?_
 refine RN.p rfl (by exact (p_sub rfl rfl rfl (by omega))) ?_
 refine RN.a rfl ?_
 refine RN.nil ?_
 refine hK2 _ _ ?_
 refine T.seq fun K3 hK3 => ?_
 refine T.seq fun K4 hK4 => ?_
 refine T.region (l := [0, 1, 2, 3, 4]) rfl ?_
 refine RN.m rfl ?_
 refine RN.p rfl (p_nilCheck rfl rfl) ?_
 refine RN.p rfl (p_fieldAddr rfl fa_72_2 rfl) ?_
 refine RN.u rfl (q_loadA rfl ag_70 ts_70 rfl (i := 0) rfl (by rw [stC_length hes]; decide) (stC_all hes)) ?_
 refine RN.m rfl ?_
 refine RN.nil ?_
 refine hK4 _ _ ?_
 refine T.block ?_
 refine T.loop (G := Nat) (fun k => k ≤ 8) (fun k => [(3, .int .i64 ((c : Int) - 8 - (sumL (es.take k) : Nat))), (14, .agg (flE es).toArray), (15, intV k)]) (fun k => [row s 72 (stC 24 a c es), Fr]) (fun k => 8 - k) 0 (Nat.zero_le _) (LiveIs.cons (congrArg (Value.int .i64) (by simp [sumL])) (LiveIs.cons rfl (LiveIs.cons rfl LiveIs.nil))) (Ent.refl _) ?_
 rintro k e5 hk
 refine T.seq fun K6 hK6 => ?_
 refine T.region (l := [0]) rfl ?_
 refine RN.p rfl (p_lss rfl rfl rfl) ?_
 refine RN.nil ?_
 refine hK6 _ _ ?_
 refine T.seq fun K7 hK7 => ?_
 refine T.cond_dec rfl (fun h16 => ?_) (fun h16 => ?_)
 ·
  have hk8 : k < es.length := by omega
  have hs1 := sumL_le hi k hk
  have hb1 := hi.bound hk8
  refine T.skip ?_
  refine hK7 _ _ ?_
  refine T.seq fun K8 hK8 => ?_
  refine T.block ?_
  refine T.seq fun K9 hK9 => ?_
  refine T.region (l := [0, 1, 2]) rfl ?_
  refine RN.p rfl (p_index_aggA rfl Tryz.underlying70 ts_49 ag_49 rfl rfl (by omega) (flE_get (show k < es.length by omega))) ?_
  refine RN.E rfl rfl rfl rfl (e_alloc rfl ti_49) ?_
  rintro _ _ ⟨b5, rfl, rfl⟩
  refine RN.EN rfl rfl rfl (by exact (e_storeA rfl ts_49 rfl rfl rfl (VE.cells_one _) (i := 0) rfl (by (simp; done)))) ?_
  rintro _ _ ⟨rfl, rfl⟩
  refine RN.nil ?_
  refine hK9 _ _ ?_
  refine T.region (l := [0, 1, 2, 3, 4]) rfl ?_
  refine RN.m rfl ?_
  refine RN.p rfl (p_fieldAddr rfl fa_49_2 rfl) ?_
  refine RN.u rfl (by exact (q_load rfl sc_3 rfl (i := 0) rfl rfl)) ?_
  have hs2 : sumL (es.take k) ≤ 8 * 512 := Nat.le_trans hs1 (Nat.mul_le_mul hk hc)
  refine RN.p rfl (by exact (p_sub rfl rfl rfl (by omega))) ?_
  refine RN.a rfl ?_
  refine RN.nil ?_
  refine hK8 _ _ ?_
  refine T.region (l := [0, 1]) rfl ?_
  refine RN.p rfl (by exact (p_addN (b := 1) rfl rfl rfl (by omega))) ?_
  refine RN.m rfl ?_
  refine RN.nil ?_
  refine ⟨k + 1, (by omega), (by omega), (LiveIs.cons (congrArg (Value.int .i64) (by rw [sumL_take hk8]; omega)) (LiveIs.cons rfl (LiveIs.cons rfl LiveIs.nil))), (Ent.pull_drop (is := [1, 1]) rfl)⟩
 ·
  have e8 : es.take k = es := List.take_of_length_le (by omega)
  refine T.exit ?_
  refine Post.seq_x ?_
  refine Post.seq_x ?_
  refine Post.block_hit ?_
  refine hK3 _ _ ?_
  refine T.seq fun K10 hK10 => ?_
  refine T.region (l := [0, 1]) rfl ?_
  refine RN.m rfl ?_
  refine RN.a rfl ?_
  refine RN.nil ?_
  refine hK10 _ _ ?_
  refine T.ret ?_
  rw [e8]
  refine bodyQ_ret [row s 72 (stC 24 a c es)] (RetRun.tmp RetRun.nil) ⟨rfl, rfl⟩ (Ent.refl _)

theorem room_spec (s a c : Nat) (es : List VE) (n : Nat) (hi : VInv c es) (hc : 8 ≤ c ∧ c ≤ 512) (hn : n ≤ 512) : Ctr Tryz.prog 46 [ptr s 0, intV n] [row s 72 (stC 24 a c es)] (fun v Ps => v = .tuple #[.int .i64 (freeZ es), intV (roomAt es n), .bool (decide (0 ≤ freeZ es ∧ roomAt es n + n ≤ c))] ∧ Ps = [row s 72 (stC 24 a c es)]) := by
 refine Ctr.of_body Tryz.func46 rfl (by kernel_rfl) Tryz.ntmps46 rfl rfl (fun Fr => ?_)
 have hes := hi.len
 refine T.seq fun K1 hK1 => ?_
 refine T.region (l := [0, 1, 2]) rfl ?_
 refine RN.a rfl ?_
 refine RN.a rfl ?_
 refine RN.a rfl ?_
 refine RN.nil ?_
 refine hK1 _ _ ?_
 refine T.seq fun K2 hK2 => ?_
 refine T.region (l := [0]) rfl ?_
 refine RN.a rfl ?_
 refine RN.nil ?_
 refine hK2 _ _ ?_
 refine T.cut (G := Unit) (fun ⟨⟩ => True) (fun ⟨⟩ => [(0, ptr s 0), (1, intV n), (4, .int .i64 (freeZ es))]) (fun ⟨⟩ => [row s 72 (stC 24 a c es), Fr]) ?_ ?_
 ·
  refine T.seq fun K4 hK4 => ?_
  refine T.region (l := [0, 1, 2, 3, 4]) rfl ?_
  refine RN.m rfl ?_
  refine RN.p rfl (p_nilCheck rfl rfl) ?_
  refine RN.p rfl (p_fieldAddr rfl fa_72_2 rfl) ?_
  refine RN.u rfl (q_loadA rfl ag_70 ts_70 rfl (i := 0) rfl (by rw [stC_length hes]; decide) (stC_all hes)) ?_
  refine RN.m rfl ?_
  refine RN.nil ?_
  refine hK4 _ _ ?_
  refine T.block ?_
  refine T.loop (G := Nat) (fun k => k ≤ 8 ∧ ∀ j (hj : j < es.length), j < k → es[j].len ≠ 0) (fun k => [(0, ptr s 0), (1, intV n), (4, .int .i64 (-1)), (15, .agg (flE es).toArray), (16, intV k)]) (fun k => [row s 72 (stC 24 a c es), Fr]) (fun k => 8 - k) 0 ⟨Nat.zero_le _, fun j hj h => absurd h (Nat.not_lt_zero _)⟩ (LiveIs.cons rfl (LiveIs.cons rfl (LiveIs.cons rfl (LiveIs.cons rfl (LiveIs.cons rfl LiveIs.nil))))) (Ent.refl _) ?_
  rintro k e5 ⟨hk, hno⟩
  refine T.seq fun K6 hK6 => ?_
  refine T.region (l := [0]) rfl ?_
  refine RN.p rfl (p_lss rfl rfl rfl) ?_
  refine RN.nil ?_
  refine hK6 _ _ ?_
  refine T.seq fun K7 hK7 => ?_
  refine T.cond_dec rfl (fun h17 => ?_) (fun h17 => ?_)
  ·
   have hk8 : k < es.length := by omega
   refine T.skip ?_
   refine hK7 _ _ ?_
   refine T.seq fun K8 hK8 => ?_
   refine T.block ?_
   refine T.seq fun K9 hK9 => ?_
   refine T.region (l := [0, 1, 2, 3, 4]) rfl ?_
   refine RN.m rfl ?_
   refine RN.p rfl (p_index_aggA rfl Tryz.underlying70 ts_49 ag_49 rfl rfl (by omega) (flE_get (show k < es.length by omega))) ?_
   refine RN.E rfl rfl rfl rfl (e_alloc rfl ti_49) ?_
   rintro _ _ ⟨b8, rfl, rfl⟩
   refine RN.a rfl ?_
   refine RN.EN rfl rfl rfl (by exact (e_storeA rfl ts_49 rfl rfl rfl (VE.cells_one _) (i := 0) rfl (by (simp; done)))) ?_
   rintro _ _ ⟨rfl, rfl⟩
   refine RN.nil ?_
   refine hK9 _ _ ?_
   refine T.seq fun K10 hK10 => ?_
   refine T.region (l := [0, 1, 2]) rfl ?_
   refine RN.p rfl (p_fieldAddr rfl fa_49_2 rfl) ?_
   refine RN.u rfl (by exact (q_load rfl sc_3 rfl (i := 0) rfl rfl)) ?_
   refine RN.p rfl (p_eql rfl rfl rfl) ?_
   refine RN.nil ?_
   refine hK10 _ _ ?_
   refine T.cond_dec rfl (fun h22 => ?_) (fun h22 => ?_)
   ·
    refine T.seq fun K11 hK11 => ?_
    refine T.region (l := [0, 1]) rfl ?_
    refine RN.m rfl ?_
    refine RN.a rfl ?_
    refine RN.nil ?_
    refine hK11 _ _ ?_
    refine T.exit ?_
    refine Post.block_miss rfl ?_
    refine Post.seq_x ?_
    refine Post.seq_x ?_
    refine Post.block_hit ?_
    refine ⟨(), trivial, (LiveIs.cons rfl (LiveIs.cons rfl (LiveIs.cons (congrArg (Value.int .i64) (freeZ_some (freeI_some hk8 (by omega) (fun j hj h => hno j hj h))).symm) LiveIs.nil))), (Ent.pull_drop (is := [1, 1]) rfl)⟩
   ·
    refine T.skip ?_
    refine hK8 _ _ ?_
    refine T.region (l := [0, 1]) rfl ?_
    refine RN.p rfl (by exact (p_addN (b := 1) rfl rfl rfl (by omega))) ?_
    refine RN.m rfl ?_
    refine RN.nil ?_
    refine ⟨k + 1, ⟨by omega, fun j hj h => by
     by_cases e : j = k
     · subst e; omega
     · exact hno j hj (by omega)⟩, (by omega), (LiveIs.cons rfl (LiveIs.cons rfl (LiveIs.cons rfl (LiveIs.cons rfl (LiveIs.cons rfl LiveIs.nil))))), (Ent.pull_drop (is := [1, 1]) rfl)⟩
  ·
   refine T.exit ?_
   refine Post.seq_x ?_
   refine Post.seq_x ?_
   refine Post.block_hit ?_
   refine ⟨(), trivial, (LiveIs.cons rfl (LiveIs.cons rfl (LiveIs.cons (congrArg (Value.int .i64) (freeZ_none (freeI_none (fun j hj => hno j hj (by omega)))).symm) LiveIs.nil))), (Ent.refl _)⟩
 ·
  rintro ⟨⟩ e3 -
  refine T.seq fun K12 hK12 => ?_
  refine T.region (l := [0]) rfl ?_
  refine RN.a rfl ?_
  refine RN.nil ?_
  refine hK12 _ _ ?_
  refine T.seq fun K13 hK13 => ?_
  refine T.seq fun K14 hK14 => ?_
  refine T.region (l := [0]) rfl ?_
  refine RN.a rfl ?_
  refine RN.nil ?_
  refine hK14 _ _ ?_
  refine T.block ?_
  refine T.loop (G := Nat × Bool) (fun ⟨at_, moved⟩ => 8 ≤ at_ ∧ at_ ≤ c ∧ (∀ p, 8 ≤ p → p < at_ → Blk es n p) ∧ (moved = false → ¬ Blk es n at_)) (fun ⟨at_, moved⟩ => [(0, ptr s 0), (1, intV n), (4, .int .i64 (freeZ es)), (5, intV at_), (9, .bool moved)]) (fun ⟨at_, moved⟩ => [row s 72 (stC 24 a c es), Fr]) (fun ⟨at_, moved⟩ => cond moved (c - at_ + 1) 0) (8, true) ⟨Nat.le_refl _, hc.1, fun p h1 h2 => by omega, fun h => by cases h⟩ (LiveIs.cons rfl (LiveIs.cons rfl (LiveIs.cons rfl (LiveIs.cons rfl (LiveIs.cons rfl LiveIs.nil))))) (Ent.refl _) ?_
  rintro ⟨at_, moved⟩ e15 ⟨h8, hac, hbl, hnb⟩
  dsimp only
  refine T.seq fun K16 hK16 => ?_
  refine T.seq fun K17 hK17 => ?_
  refine T.region (l := [0]) rfl ?_
  refine RN.m rfl ?_
  refine RN.nil ?_
  refine hK17 _ _ ?_
  refine T.cond rfl (fun h25 => ?_) (fun h25 => ?_)
  ·
   obtain rfl : moved = true := h25
   refine T.skip ?_
   refine hK16 _ _ ?_
   refine T.block ?_
   refine T.seq fun K18 hK18 => ?_
   refine T.region (l := [0]) rfl ?_
   refine RN.a rfl ?_
   refine RN.nil ?_
   refine hK18 _ _ ?_
   refine T.seq fun K19 hK19 => ?_
   refine T.region (l := [0, 1, 2, 3, 4]) rfl ?_
   refine RN.m rfl ?_
   refine RN.p rfl (p_nilCheck rfl rfl) ?_
   refine RN.p rfl (p_fieldAddr rfl fa_72_2 rfl) ?_
   refine RN.u rfl (q_loadA rfl ag_70 ts_70 rfl (i := 0) rfl (by rw [stC_length hes]; decide) (stC_all hes)) ?_
   refine RN.m rfl ?_
   refine RN.nil ?_
   refine hK19 _ _ ?_
   refine T.block ?_
   refine T.loop (G := Nat × Nat × Bool) (fun ⟨k, at2, mv⟩ => k ≤ 8 ∧ at_ ≤ at2 ∧ at2 ≤ c ∧ (∀ p, 8 ≤ p → p < at2 → Blk es n p) ∧ (mv = true → at_ < at2) ∧ (mv = false → at2 = at_ ∧ ∀ j (hj : j < es.length), j < k → ¬ (0 < es[j].len ∧ at_ < es[j].first + es[j].len ∧ es[j].first < at_ + n))) (fun ⟨k, at2, mv⟩ => [(0, ptr s 0), (1, intV n), (4, .int .i64 (freeZ es)), (5, intV at2), (9, .bool mv), (29, .agg (flE es).toArray), (30, intV k)]) (fun ⟨k, at2, mv⟩ => [row s 72 (stC 24 a c es), Fr]) (fun ⟨k, at2, mv⟩ => 8 - k) (0, at_, false) ⟨Nat.zero_le _, Nat.le_refl _, hac, hbl, (fun h => by cases h), fun _ => ⟨rfl, fun j hj h => absurd h (Nat.not_lt_zero _)⟩⟩ (LiveIs.cons rfl (LiveIs.cons rfl (LiveIs.cons rfl (LiveIs.cons rfl (LiveIs.cons rfl (LiveIs.cons rfl (LiveIs.cons rfl LiveIs.nil))))))) (Ent.refl _) ?_
   rintro ⟨k, at2, mv⟩ e20 ⟨hk, h2a, h2c, hb2, ht2, hf2⟩
   dsimp only
   refine T.seq fun K21 hK21 => ?_
   refine T.region (l := [0]) rfl ?_
   refine RN.p rfl (p_lss rfl rfl rfl) ?_
   refine RN.nil ?_
   refine hK21 _ _ ?_
   refine T.seq fun K22 hK22 => ?_
   refine T.cond_dec rfl (fun h31 => ?_) (fun h31 => ?_)
   ·
    have hk8 : k < es.length := by omega
    have hbd := hi.bound hk8
    refine T.skip ?_
    refine hK22 _ _ ?_
    refine T.seq fun K23 hK23 => ?_
    refine T.block ?_
    refine T.seq fun K24 hK24 => ?_
    refine T.region (l := [0, 1, 2]) rfl ?_
    refine RN.p rfl (p_index_aggA rfl Tryz.underlying70 ts_49 ag_49 rfl rfl (by omega) (flE_get (show k < es.length by omega))) ?_
    refine RN.E rfl rfl rfl rfl (e_alloc rfl ti_49) ?_
    rintro _ _ ⟨b11, rfl, rfl⟩
    refine RN.EN rfl rfl rfl (by exact (e_storeA rfl ts_49 rfl rfl rfl (VE.cells_one _) (i := 0) rfl (by (simp; done)))) ?_
    rintro _ _ ⟨rfl, rfl⟩
    refine RN.nil ?_
    refine hK24 _ _ ?_
    refine T.seq fun K25 hK25 => ?_
    refine T.region (l := [0, 1, 2, 3, 4, 5, 6, 7, 8, 9, 10, 11, 12, 13, 14, 15, 16, 17, 18, 19]) rfl ?_
    refine RN.p rfl (p_fieldAddr rfl fa_49_2 rfl) ?_
    refine RN.u rfl (by exact (q_load rfl sc_3 rfl (i := 0) rfl rfl)) ?_
    refine RN.p rfl (p_gtr rfl rfl rfl) ?_
    refine RN.m rfl ?_
    refine RN.split_dec 36 rfl (fun h36 => ?_) (fun h36 => ?_)
    ·
     refine RN.m rfl ?_
     refine RN.p rfl (p_fieldAddr rfl fa_49_1 rfl) ?_
     refine RN.u rfl (by exact (q_load rfl sc_3 rfl (i := 0) rfl rfl)) ?_
     refine RN.p rfl (p_fieldAddr rfl fa_49_2 rfl) ?_
     refine RN.u rfl (by exact (q_load rfl sc_3 rfl (i := 0) rfl rfl)) ?_
     refine RN.p rfl (by exact (p_addN rfl rfl rfl (by omega))) ?_
     refine RN.p rfl (p_lss rfl rfl rfl) ?_
     refine RN.pt rfl ?_
     refine RN.m rfl ?_
     refine RN.split_dec 45 rfl (fun h45 => ?_) (fun h45 => ?_)
     ·
      refine RN.p rfl (p_fieldAddr rfl fa_49_1 rfl) ?_
      refine RN.u rfl (by exact (q_load rfl sc_3 rfl (i := 0) rfl rfl)) ?_
      refine RN.m rfl ?_
      refine RN.m rfl ?_
      refine RN.p rfl (by exact (p_addN rfl rfl rfl (by omega))) ?_
      refine RN.p rfl (p_lss rfl rfl rfl) ?_
      refine RN.pt rfl ?_
      refine RN.nil ?_
      refine hK25 _ _ ?_
      refine T.cond_dec rfl (fun h52 => ?_) (fun h52 => ?_)
      ·
       refine T.region (l := [0, 1, 2, 3, 4, 5, 6]) rfl ?_
       refine RN.p rfl (p_fieldAddr rfl fa_49_1 rfl) ?_
       refine RN.u rfl (by exact (q_load rfl sc_3 rfl (i := 0) rfl rfl)) ?_
       refine RN.p rfl (p_fieldAddr rfl fa_49_2 rfl) ?_
       refine RN.u rfl (by exact (q_load rfl sc_3 rfl (i := 0) rfl rfl)) ?_
       refine RN.p rfl (by exact (p_addN rfl rfl rfl (by omega))) ?_
       refine RN.a rfl ?_
       refine RN.a rfl ?_
       refine RN.nil ?_
       refine hK23 _ _ ?_
       refine T.region (l := [0, 1]) rfl ?_
       refine RN.p rfl (by exact (p_addN (b := 1) rfl rfl rfl (by omega))) ?_
       refine RN.m rfl ?_
       refine RN.nil ?_
       refine ⟨(k + 1, es[k].first + es[k].len, true), ⟨by omega, (show at_ ≤ es[k].first + es[k].len by omega), (show es[k].first + es[k].len ≤ c by omega), blk_step hb2 hk8 (by omega) (by omega) (by omega), (fun _ => show at_ < es[k].first + es[k].len by omega), (fun h => by cases h)⟩, (by simp; omega), (LiveIs.cons rfl (LiveIs.cons rfl (LiveIs.cons rfl (LiveIs.cons rfl (LiveIs.cons rfl (LiveIs.cons rfl (LiveIs.cons rfl LiveIs.nil))))))), (Ent.pull_drop (is := [1, 1]) rfl)⟩
      ·
       refine T.skip ?_
       refine hK23 _ _ ?_
       refine T.region (l := [0, 1]) rfl ?_
       refine RN.p rfl (by exact (p_addN (b := 1) rfl rfl rfl (by omega))) ?_
       refine RN.m rfl ?_
       refine RN.nil ?_
       refine ⟨(k + 1, at2, mv), ⟨by omega, h2a, h2c, hb2, ht2, fun h => ⟨(hf2 h).1, fun j hj hlt => by
        by_cases e : j = k
        · subst e; have e2 := (hf2 h).1; omega
        · exact (hf2 h).2 j hj (by omega)⟩⟩, (by simp; omega), (LiveIs.cons rfl (LiveIs.cons rfl (LiveIs.cons rfl (LiveIs.cons rfl (LiveIs.cons rfl (LiveIs.cons rfl (LiveIs.cons rfl LiveIs.nil))))))), (Ent.pull_drop (is := [1, 1]) rfl)⟩
     ·
      refine RN.no0 rfl ?_
      refine RN.no0 rfl ?_
      refine RN.no0 rfl ?_
      refine RN.no0 rfl ?_
      refine RN.no0 rfl ?_
      refine RN.no0 rfl ?_
      refine RN.pf rfl ?_
      refine RN.nil ?_
      refine hK25 _ _ ?_
      refine T.cond_f rfl ?_
      refine T.skip ?_
      refine hK23 _ _ ?_
      refine T.region (l := [0, 1]) rfl ?_
      refine RN.p rfl (by exact (p_addN (b := 1) rfl rfl rfl (by omega))) ?_
      refine RN.m rfl ?_
      refine RN.nil ?_
      refine ⟨(k + 1, at2, mv), ⟨by omega, h2a, h2c, hb2, ht2, fun h => ⟨(hf2 h).1, fun j hj hlt => by
       by_cases e : j = k
       · subst e; have e2 := (hf2 h).1; omega
       · exact (hf2 h).2 j hj (by omega)⟩⟩, (by simp; omega), (LiveIs.cons rfl (LiveIs.cons rfl (LiveIs.cons rfl (LiveIs.cons rfl (LiveIs.cons rfl (LiveIs.cons rfl (LiveIs.cons rfl LiveIs.nil))))))), (Ent.pull_drop (is := [1, 1]) rfl)⟩
    ·
     refine RN.no0 rfl ?_
     refine RN.no0 rfl ?_
     refine RN.no0 rfl ?_
     refine RN.no0 rfl ?_
     refine RN.no0 rfl ?_
     refine RN.no0 rfl ?_
     refine RN.no0 rfl ?_
     refine RN.pf rfl ?_
     refine RN.m rfl ?_
     refine RN.no0 rfl ?_
     refine RN.no0 rfl ?_
     refine RN.no0 rfl ?_
     refine RN.no0 rfl ?_
     refine RN.no0 rfl ?_
     refine RN.no0 rfl ?_
     refine RN.pf rfl ?_
     refine RN.nil ?_
     refine hK25 _ _ ?_
     refine T.cond_f rfl ?_
     refine T.skip ?_
     refine hK23 _ _ ?_
     refine T.region (l := [0, 1]) rfl ?_
     refine RN.p rfl (by exact (p_addN (b := 1) rfl rfl rfl (by omega))) ?_
     refine RN.m rfl ?_
     refine RN.nil ?_
     refine ⟨(k + 1, at2, mv), ⟨by omega, h2a, h2c, hb2, ht2, fun h => ⟨(hf2 h).1, fun j hj hlt => by
      by_cases e : j = k
      · subst e; have e2 := (hf2 h).1; omega
      · exact (hf2 h).2 j hj (by omega)⟩⟩, (by simp; omega), (LiveIs.cons rfl (LiveIs.cons rfl (LiveIs.cons rfl (LiveIs.cons rfl (LiveIs.cons rfl (LiveIs.cons rfl (LiveIs.cons rfl LiveIs.nil))))))), (Ent.pull_drop (is := [1, 1]) rfl)⟩
   ·
    refine T.exit ?_
    refine Post.seq_x ?_
    refine Post.seq_x ?_
    refine Post.block_hit ?_
    refine ⟨(at2, mv), ⟨by omega, h2c, hb2, fun h => by
     rintro ⟨j, hj, g1, g2, g3⟩
     obtain ⟨rfl, hn2⟩ := hf2 h
     exact hn2 j hj (by omega) ⟨g1, g2, g3⟩⟩, (by cases mv with
     | false => exact Nat.succ_pos _
     | true => have := ht2 rfl; show c - at2 + 1 < c - at_ + 1; omega), (LiveIs.cons rfl (LiveIs.cons rfl (LiveIs.cons rfl (LiveIs.cons rfl (LiveIs.cons rfl LiveIs.nil))))), Ent.refl _⟩
  ·
   obtain rfl : moved = false := h25
   have hFE : FirstE es n at_ := ⟨h8, hnb rfl, hbl⟩
   refine T.exit ?_
   refine Post.seq_x ?_
   refine Post.seq_x ?_
   refine Post.block_hit ?_
   refine hK13 _ _ ?_
   refine T.seq fun K26 hK26 => ?_
   refine T.regionD (z := 17) (Bs := [row s 72 (stC 24 a c es)]) (l := [(0, .pure), (1, .pure), (2, .pure), (3, .pure), (4, .pure), (5, .pure), (6, .pure), (7, .pure), (8, .pure), (9, .load), (10, .pure), (11, .pure), (12, .pure), (13, .pure), (14, .pure), (15, .pure), (16, .pure)]) mixed (by kernel_rfl) (by exact Ent.pull_drop (is := [0]) rfl) ?_
   refine RD.n rfl (p_move rfl (by conv => lhs; whnf)) ?_
   refine RD.n rfl (p_move rfl (by conv => lhs; whnf)) ?_
   refine RD.n rfl (p_move rfl (by conv => lhs; whnf)) ?_
   refine RD.n rfl (p_geq rfl rfl rfl) ?_
   refine RD.n rfl (p_move rfl (by conv => lhs; whnf)) ?_
   refine RD.split_dec 63 rfl (fun h63 => ?_) (fun h63 => ?_)
   ·
    refine RD.n rfl (p_move rfl (by conv => lhs; whnf)) ?_
    refine RD.n rfl (p_move rfl (by conv => lhs; whnf)) ?_
    refine RD.n rfl (p_nilCheck rfl rfl) ?_
    refine RD.n rfl (p_fieldAddr rfl fa_72_1 rfl) ?_
    refine RD.qq rfl rfl rfl rfl (by exact (q_load rfl sc_3 rfl (i := 0) rfl rfl)) (by exact Ent.pull_drop (is := [0]) rfl) ?_
    refine RD.n rfl (p_move rfl (by conv => lhs; whnf)) ?_
    refine RD.n rfl (by exact (p_sub rfl rfl rfl (by omega))) ?_
    refine RD.n rfl (p_leq rfl rfl rfl) ?_
    refine RD.n rfl (p_pick_t rfl rfl (by conv => lhs; whnf)) ?_
    refine RD.n rfl (p_assign rfl (by conv => lhs; whnf)) ?_
    refine RD.n rfl (p_assign rfl (by conv => lhs; whnf)) ?_
    refine RD.n rfl (p_assign rfl (by conv => lhs; whnf)) ?_
    refine RD.nil ?_
    refine hK26 _ _ ?_
    refine T.ret ?_
    refine bodyQ_ret [row s 72 (stC 24 a c es)] (RetRun.tmp (RetRun.tmp (RetRun.tmp RetRun.nil))) ⟨by rw [hFE.room, decide_eq_decide.2 (show (0 ≤ freeZ es ∧ at_ + n ≤ c) ↔ ((at_ : Int) ≤ (c : Int) - n) by omega)]; rfl, rfl⟩ (Ent.refl _)
   ·
    refine RD.OP rfl rfl rfl rfl ?_
    refine RD.OP rfl rfl rfl rfl ?_
    refine RD.OP rfl rfl rfl rfl ?_
    refine RD.OP rfl rfl rfl rfl ?_
    refine RD.OL rfl rfl rfl rfl (by exact Ent.pull_drop (is := [0]) rfl) ?_
    refine RD.OP rfl rfl rfl rfl ?_
    refine RD.OP rfl rfl rfl rfl ?_
    refine RD.OP rfl rfl rfl rfl ?_
    refine RD.n rfl (p_pick_f rfl rfl (by conv => lhs; whnf)) ?_
    refine RD.n rfl (p_assign rfl (by conv => lhs; whnf)) ?_
    refine RD.n rfl (p_assign rfl (by conv => lhs; whnf)) ?_
    refine RD.n rfl (p_assign rfl (by conv => lhs; whnf)) ?_
    refine RD.nil ?_
    refine hK26 _ _ ?_
    refine T.ret ?_
    refine bodyQ_ret [row s 72 (stC 24 a c es)] (RetRun.tmp (RetRun.tmp (RetRun.tmp RetRun.nil))) ⟨by rw [hFE.room, decide_eq_false (p := 0 ≤ freeZ es ∧ at_ + n ≤ c) (fun h => by have := h.1; omega)]; rfl, rfl⟩ (Ent.refl _)

end Go.Proofs.YtbbgajjonodlfaaGreat
namespace Go.Proofs.YtbbgajjonodlfaaGreat
open Go Go.Sl Go.Proofs
set_option maxRecDepth 20000
open Go.Mo Go.Evl
theorem note_spec (s a c : Nat) (es : List VE) (t : List UInt8) (i : Nat) (x : VE) (hes : es.length = 8) (hi : i < 8) (hR : Right (t.length / 32 : Nat) i 1) (hn : x.name.length ≤ 16) (hf : x.first < 65536) (hl : x.len < 65536) : Ctr Tryz.prog 47 [ptr s 0, intV i, .agg x.cells.toArray] [row s 72 (stC 24 a c es), arrA 63 57 5 a t] (fun v Ps => v = .int .i64 0 ∧ Ps = [row s 72 (stC 24 a c (es.set i x)), arrA 63 57 5 a (wrT t i 1 (laidT x))]) := by
 refine Ctr.of_body Tryz.func47 rfl (by kernel_rfl) Tryz.ntmps47 rfl rfl (fun Fr => ?_)
 refine T.seq fun K1 hK1 => ?_
 refine T.region (l := [0, 1]) rfl ?_
 refine RN.E rfl rfl rfl rfl (e_box rfl rfl rfl) ?_
 rintro _ _ ⟨b5, rfl, rfl⟩
 refine RN.a rfl ?_
 refine RN.nil ?_
 refine hK1 _ _ ?_
 refine T.seq fun K2 hK2 => ?_
 refine T.seq fun K3 hK3 => ?_
 refine T.regionD (z := 11) (Bs := [row b5 49 x.cells, row s 72 (stC 24 a c es)]) (l := [(0, .pure), (1, .pure), (2, .pure), (3, .load), (4, .pure), (5, .load), (7, .pure), (8, .pure), (6, .eff), (9, .eff), (10, .pure)]) mixed (by kernel_rfl) (by exact Ent.pull_drop (is := [0, 0]) rfl) ?_
 refine RD.n rfl (p_move rfl (by conv => lhs; whnf)) ?_
 refine RD.n rfl (p_nilCheck rfl rfl) ?_
 refine RD.n rfl (p_fieldAddr rfl fa_72_0 rfl) ?_
 refine RD.qq rfl rfl rfl rfl (q_load rfl sc_68 rfl (i := 1) rfl rfl) (by exact Ent.pull_drop (is := [0, 0]) rfl) ?_
 refine RD.n rfl (p_move rfl (by conv => lhs; whnf)) ?_
 refine RD.qq rfl rfl rfl rfl (q_loadA rfl ag_49 ts_49 rfl (i := 0) rfl (by exact Nat.le_refl _) rfl) (by exact Ent.pull_drop (is := [0, 0]) rfl) ?_
 refine RD.n rfl (p_nilCheckI rfl rfl) ?_
 refine RD.n rfl (p_move rfl (by conv => lhs; whnf)) ?_
 refine RD.C [] rfl rfl rfl rfl (c_call rfl rfl) (laid_spec x hn hf hl) rfl (by rintro _ _ ⟨rfl, rfl⟩; exact .inl (by exact Ent.pull_drop (is := [0, 0]) rfl)) ?_
 rintro _ _ ⟨rfl, rfl⟩
 refine RD.C [2] rfl rfl rfl rfl (c_invokeA rfl rfl (by kernel_rfl) rfl) (Write_A a t i 1 (laidT x)) rfl (by rintro _ _ ⟨rfl, rfl⟩; exact .inl (by exact Ent.pull_drop (is := [1, 1]) rfl)) ?_
 rintro _ _ ⟨rfl, rfl⟩
 rw [erT_yes hR]
 refine RD.n rfl (p_assign rfl (by conv => lhs; whnf)) ?_
 refine RD.nil ?_
 refine hK3 _ _ ?_
 refine T.seq fun K4 hK4 => ?_
 refine T.region (l := [0, 1]) rfl ?_
 refine RN.m rfl ?_
 refine RN.p rfl (p_neq rfl rfl rfl) ?_
 refine RN.nil ?_
 refine hK4 _ _ ?_
 refine T.known 19 rfl (show _ = Value.bool false from congrArg Value.bool (decide_eq_false (not_not_intro rfl))) ?_
 refine T.cond_f rfl ?_
 refine T.skip ?_
 refine hK2 _ _ ?_
 refine T.seq fun K5 hK5 => ?_
 refine T.regionD (z := 6) (Bs := [row b5 49 x.cells]) (l := [(0, .pure), (1, .pure), (2, .load), (3, .pure), (4, .pure), (5, .pure), (6, .eff)]) mixed (by kernel_rfl) (by exact Ent.pull_drop (is := [1]) rfl) ?_
 refine RD.n rfl (p_move rfl (by conv => lhs; whnf)) ?_
 refine RD.n rfl (p_move rfl (by conv => lhs; whnf)) ?_
 refine RD.qq rfl rfl rfl rfl (by exact (q_loadA rfl ag_49 ts_49 rfl (i := 0) rfl (by exact Nat.le_refl _) rfl)) (by exact Ent.pull_drop (is := [1]) rfl) ?_
 refine RD.n rfl (p_nilCheck rfl rfl) ?_
 refine RD.n rfl (p_fieldAddr rfl fa_72_2 rfl) ?_
 refine RD.n rfl (by exact (p_indexAddrN_a rfl Tryz.underlying70 ts_49 rfl rfl (by omega))) ?_
 refine RD.EN rfl rfl rfl (by exact (e_storeA rfl ts_49 rfl rfl rfl (VE.cells_one x) (i := 2) rfl (by rw [stC_length hes]; omega))) (fun _ _ _ => .inr rfl) ?_
 rintro _ _ ⟨rfl, rfl⟩
 refine RD.nil ?_
 refine hK5 _ _ ?_
 refine T.seq fun K6 hK6 => ?_
 refine T.region (l := [0]) rfl ?_
 refine RN.a rfl ?_
 refine RN.nil ?_
 refine hK6 _ _ ?_
 refine T.ret ?_
 refine bodyQ_ret [row s 72 (stC 24 a c (es.set i x)), arrA 63 57 5 a (wrT t i 1 (laidT x))] (RetRun.tmp RetRun.nil) ⟨rfl, rfl⟩ ((Ent.pull_drop (is := [2, 0, 1]) rfl).trans (Ent.rowEq (stC_lay x (by omega))))

end Go.Proofs.YtbbgajjonodlfaaGreat
