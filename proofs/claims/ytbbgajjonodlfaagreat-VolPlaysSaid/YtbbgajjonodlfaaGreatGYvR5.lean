/-
 The reference: walked.
-/
import Derived.Test.YtbbgajjonodlfaaGreatGYvR3
import Derived.Test.YtbbgajjonodlfaaGreatGModelVo
import Derived.Test.YtbbgajjonodlfaaGreatGYvV3
set_option linter.unusedVariables false
set_option linter.unusedSimpArgs false
namespace Go.Proofs.YtbbgajjonodlfaaGreat
open Go Go.Sl Go.Proofs
set_option maxRecDepth 20000
open Go.Mo Go.Evl
theorem RRead_A (l : List UInt8) (lba n : Int) (hl : l.length ≤ 1099511627776) : Ctr Tryz.prog 41 [strV l, .int .i64 lba, .int .i64 n] [] (fun v Ps => v = .tuple #[strV (rdT l lba n), .bool (decide (Right (l.length / 32 : Nat) lba n))] ∧ Ps = []) := RRead_spec l lba n hl
theorem RWrite_A (l : List UInt8) (lba n : Int) (data : List UInt8) (hl : l.length ≤ 1099511627776) (hd : data.length ≤ 140737488351232) : Ctr Tryz.prog 9 [strV l, .int .i64 lba, .int .i64 n, strV data] [] (fun v Ps => v = .tuple #[strV (wrT l lba n data), .bool (decide (Right (l.length / 32 : Nat) lba n))] ∧ Ps = []) := RWrite_spec l lba n data hl hd

theorem RFree_spec (t : List UInt8) (c : Nat) (ht : t.length = c * 32) (hc : 9 ≤ c ∧ c ≤ 512) : Ctr Tryz.prog 33 [strV t] [] (fun v Ps => v = .int .i64 ((c : Int) - 8 - (sumL ((rvE c t 8).map Prod.fst) : Nat)) ∧ Ps = []) := by
 refine Ctr.of_body Tryz.func33 rfl (by kernel_rfl) Tryz.ntmps33 rfl rfl (fun Fr => ?_)
 have hcap := cap_of ht
 have hrl := rv_len c t 8
 refine T.seq fun K1 hK1 => ?_
 refine T.region (l := [0]) rfl ?_
 refine RN.a rfl ?_
 refine RN.nil ?_
 refine hK1 _ _ ?_
 refine T.seq fun K2 hK2 => ?_
 refine T.region (l := [0, 1, 2, 3]) rfl ?_
 refine RN.m rfl ?_
 refine RN.C [] rfl rfl rfl rfl (c_call rfl rfl) (Cap_spec t (by omega)) rfl ?_
 rintro _ _ ⟨rfl, rfl⟩
 rw [hcap]
 refine RN.p rfl (by exact (p_subN (b := 8) rfl rfl rfl (by omega))) ?_
 refine RN.a rfl ?_
 refine RN.nil ?_
 refine hK2 _ _ ?_
 refine T.seq fun K3 hK3 => ?_
 refine T.region (l := [0, 1, 2]) rfl ?_
 refine RN.m rfl ?_
 refine RN.C [] rfl rfl rfl rfl (c_call rfl rfl) (RVolumes_spec t c ht hc) rfl ?_
 rintro v10 _ ⟨hv10, rfl⟩
 refine RN.a rfl ?_
 refine RN.nil ?_
 refine hK3 _ _ ?_
 refine T.seq fun K4 hK4 => ?_
 refine T.seq fun K5 hK5 => ?_
 refine T.region (l := [0]) rfl ?_
 refine RN.a rfl ?_
 refine RN.nil ?_
 refine hK5 _ _ ?_
 refine T.block ?_
 refine T.loop (G := Nat) (fun k => k ≤ (rvE c t 8).length) (fun k => [(3, .int .i64 ((c : Int) - 8 - (sumL (((rvE c t 8).take k).map Prod.fst) : Nat))), (4, v10), (5, intV k)]) (fun k => [vec 79 4 v10 (rvE c t 8).length (flR (rvE c t 8)), Fr]) (fun k => (rvE c t 8).length - k) 0 (Nat.zero_le _) (LiveIs.cons (congrArg (Value.int .i64) (show ((c - 8 : Nat) : Int) = (c : Int) - 8 - ((0 : Nat) : Int) by omega)) (LiveIs.cons rfl (LiveIs.cons rfl LiveIs.nil))) (Ent.refl _) ?_
 rintro k e6 hk0
 refine T.seq fun K7 hK7 => ?_
 refine T.seq fun K8 hK8 => ?_
 refine T.region (l := [0, 1, 2, 3]) rfl ?_
 refine RN.m rfl ?_
 refine RN.m rfl ?_
 refine RN.u rfl (q_len_vec rfl Tryz.underlying76 rfl (i := 0) rfl) ?_
 refine RN.p rfl (p_lss rfl rfl rfl) ?_
 refine RN.nil ?_
 refine hK8 _ _ ?_
 refine T.cond_dec rfl (fun h14 => ?_) (fun h14 => ?_)
 ·
  have hk : k < (rvE c t 8).length := by omega
  have hsb : sumL (((rvE c t 8).take k).map Prod.fst) ≤ 8 * 512 := Nat.le_trans (sumR_bnd k hk0) (Nat.mul_le_mul (by omega) hc.2)
  have hst := sumR_take hk
  have hkl := (rv_ok hk).2.2.2
  refine T.skip ?_
  refine hK7 _ _ ?_
  refine T.seq fun K9 hK9 => ?_
  refine T.block ?_
  refine T.openVec 0 rfl (by omega) ?_
  rintro bw capw restw rfl hw1 hw2 hw3
  refine T.region (l := [0, 1, 2, 3, 4, 5, 6, 7]) rfl ?_
  refine RN.m rfl ?_
  refine RN.m rfl ?_
  refine RN.m rfl ?_
  refine RN.p rfl (by exact (p_indexAddrN rfl Tryz.underlying76 ts_79 rfl rfl (by omega))) ?_
  refine RN.p rfl (p_fieldAddr rfl fa_79_2 rfl) ?_
  refine RN.u rfl (by exact (q_load rfl sc_3 rfl (i := 0) rfl (flR_atK (k := 2) hk rfl))) ?_
  refine RN.p rfl (by exact (p_sub rfl rfl rfl (by omega))) ?_
  refine RN.a rfl ?_
  refine RN.nil ?_
  refine hK9 _ _ ?_
  refine T.region (l := [0, 1, 2]) rfl ?_
  refine RN.m rfl ?_
  refine RN.p rfl (by exact (p_addN (b := 1) rfl rfl rfl (by omega))) ?_
  refine RN.a rfl ?_
  refine RN.nil ?_
  refine ⟨k + 1, (by omega), (by omega), (LiveIs.cons (congrArg (Value.int .i64) (by rw [hst]; omega)) (LiveIs.cons rfl (LiveIs.cons rfl LiveIs.nil))), (Ent.cons (vec_of_row (flR_length _) hw1 hw2 hw3) (Ent.refl _))⟩
 ·
  have e8 : (rvE c t 8).take k = (rvE c t 8) := List.take_of_length_le (by omega)
  refine T.exit ?_
  refine Post.seq_x ?_
  refine Post.seq_x ?_
  refine Post.block_hit ?_
  refine hK4 _ _ ?_
  refine T.seq fun K10 hK10 => ?_
  refine T.region (l := [0, 1]) rfl ?_
  refine RN.m rfl ?_
  refine RN.a rfl ?_
  refine RN.nil ?_
  refine hK10 _ _ ?_
  refine T.ret ?_
  rw [e8]
  refine bodyQ_ret [] (RetRun.tmp RetRun.nil) ⟨rfl, rfl⟩ (Ent.drop _ _)

theorem Shadowed_spec (t : List UInt8) (c : Nat) (ht : t.length = c * 32) (hc : 9 ≤ c ∧ c ≤ 512) : Ctr Tryz.prog 13 [strV t] [] (fun v Ps => v = .bool (decide (((cntE c t 8 : Nat) : Int) ≠ ((rvE c t 8).length : Nat))) ∧ Ps = []) := by
 refine Ctr.of_body Tryz.func13 rfl (by kernel_rfl) Tryz.ntmps13 rfl rfl (fun Fr => ?_)
 refine T.seq fun K1 hK1 => ?_
 refine T.region (l := [0]) rfl ?_
 refine RN.a rfl ?_
 refine RN.nil ?_
 refine hK1 _ _ ?_
 refine T.seq fun K2 hK2 => ?_
 refine T.region (l := [0]) rfl ?_
 refine RN.a rfl ?_
 refine RN.nil ?_
 refine hK2 _ _ ?_
 refine T.seq fun K3 hK3 => ?_
 refine T.seq fun K4 hK4 => ?_
 refine T.region (l := [0]) rfl ?_
 refine RN.a rfl ?_
 refine RN.nil ?_
 refine hK4 _ _ ?_
 refine T.block ?_
 refine T.loop (G := Nat) (fun k => k ≤ 8) (fun k => [(0, strV t), (3, intV (cntE c t k)), (4, intV k)]) (fun k => [Fr]) (fun k => 8 - k) 0 (Nat.zero_le _) (LiveIs.cons rfl (LiveIs.cons rfl (LiveIs.cons rfl LiveIs.nil))) (Ent.refl _) ?_
 rintro k e5 hk
 refine T.seq fun K6 hK6 => ?_
 refine T.seq fun K7 hK7 => ?_
 refine T.region (l := [0, 1]) rfl ?_
 refine RN.m rfl ?_
 refine RN.p rfl (p_lss rfl rfl rfl) ?_
 refine RN.nil ?_
 refine hK7 _ _ ?_
 refine T.cond_dec rfl (fun h8 => ?_) (fun h8 => ?_)
 ·
  refine T.skip ?_
  refine hK6 _ _ ?_
  refine T.seq fun K8 hK8 => ?_
  refine T.block ?_
  refine T.seq fun K9 hK9 => ?_
  refine T.region (l := [0, 1, 2, 3, 4, 5, 6, 7, 8]) rfl ?_
  refine RN.m rfl ?_
  refine RN.m rfl ?_
  refine RN.C [] rfl rfl rfl rfl (c_call rfl rfl) (entry_spec t k c (by omega) ht hc) rfl ?_
  rintro _ _ ⟨rfl, rfl⟩
  refine RN.m rfl ?_
  refine RN.p rfl (p_extract rfl rfl rfl) ?_
  refine RN.p rfl (p_extract rfl rfl rfl) ?_
  refine RN.E rfl rfl rfl rfl (e_alloc rfl ti_79) ?_
  rintro _ _ ⟨b5, rfl, rfl⟩
  refine RN.EN rfl rfl rfl (by exact (e_storeA rfl ts_79 rfl rfl rfl (rcE_one _) (i := 0) rfl (by (simp; done)))) ?_
  rintro _ _ ⟨rfl, rfl⟩
  refine RN.a rfl ?_
  refine RN.nil ?_
  refine hK9 _ _ ?_
  refine T.seq fun K10 hK10 => ?_
  refine T.region (l := [0]) rfl ?_
  refine RN.m rfl ?_
  refine RN.nil ?_
  refine hK10 _ _ ?_
  refine T.cond_dec rfl (fun h17 => ?_) (fun h17 => ?_)
  ·
   have hcn : cntE c t (k + 1) = cntE c t k + 1 := by rw [cntE, if_pos h17]
   have hcl := (cnt_le c t k).2
   refine T.region (l := [0, 1, 2]) rfl ?_
   refine RN.m rfl ?_
   refine RN.p rfl (by exact (p_addN (b := 1) rfl rfl rfl (by omega))) ?_
   refine RN.a rfl ?_
   refine RN.nil ?_
   refine hK8 _ _ ?_
   refine T.region (l := [0, 1, 2]) rfl ?_
   refine RN.m rfl ?_
   refine RN.p rfl (by exact (p_addN (b := 1) rfl rfl rfl (by omega))) ?_
   refine RN.a rfl ?_
   refine RN.nil ?_
   refine ⟨k + 1, (by omega), (by omega), (LiveIs.cons rfl (LiveIs.cons (congrArg intV hcn.symm) (LiveIs.cons rfl LiveIs.nil))), (Ent.drop _ _)⟩
  ·
   have hcn : cntE c t (k + 1) = cntE c t k := by rw [cntE, if_neg h17]
   refine T.skip ?_
   refine hK8 _ _ ?_
   refine T.region (l := [0, 1, 2]) rfl ?_
   refine RN.m rfl ?_
   refine RN.p rfl (by exact (p_addN (b := 1) rfl rfl rfl (by omega))) ?_
   refine RN.a rfl ?_
   refine RN.nil ?_
   refine ⟨k + 1, (by omega), (by omega), (LiveIs.cons rfl (LiveIs.cons (congrArg intV hcn.symm) (LiveIs.cons rfl LiveIs.nil))), (Ent.drop _ _)⟩
 ·
  obtain rfl : k = 8 := by omega
  refine T.exit ?_
  refine Post.seq_x ?_
  refine Post.seq_x ?_
  refine Post.block_hit ?_
  refine hK3 _ _ ?_
  refine T.seq fun K11 hK11 => ?_
  refine T.region (l := [0, 1, 2, 3, 4, 5]) rfl ?_
  refine RN.m rfl ?_
  refine RN.m rfl ?_
  refine RN.C [] rfl rfl rfl rfl (c_call rfl rfl) (RVolumes_spec t c ht hc) rfl ?_
  rintro v22 _ ⟨hv22, rfl⟩
  refine RN.u rfl (q_len_vec rfl Tryz.underlying76 rfl (i := 0) rfl) ?_
  refine RN.p rfl (p_neq rfl rfl rfl) ?_
  refine RN.a rfl ?_
  refine RN.nil ?_
  refine hK11 _ _ ?_
  refine T.ret ?_
  refine bodyQ_ret [] (RetRun.tmp RetRun.nil) ⟨rfl, rfl⟩ (Ent.drop _ _)

theorem rput_spec (t : List UInt8) (y : VE × Nat) (ht : t.length ≤ 65536) (hn : y.1.name.length ≤ 16) (hf : y.1.first < 65536) (hl : y.1.len < 65536) : Ctr Tryz.prog 58 [strV t, .agg (rcE y).toArray] [] (fun v Ps => v = strV (wrT t y.2 1 (laidT y.1)) ∧ Ps = []) := by
 refine Ctr.of_body Tryz.func58 rfl (by kernel_rfl) Tryz.ntmps58 rfl rfl (fun Fr => ?_)
 refine T.seq fun K1 hK1 => ?_
 refine T.region (l := [0, 1]) rfl ?_
 refine RN.E rfl rfl rfl rfl (e_box rfl rfl rfl) ?_
 rintro _ _ ⟨b3, rfl, rfl⟩
 refine RN.a rfl ?_
 refine RN.nil ?_
 refine hK1 _ _ ?_
 refine T.seq fun K2 hK2 => ?_
 refine T.regionD (z := 11) (Bs := [row b3 79 (rcE y)]) (l := [(0, .pure), (1, .pure), (2, .load), (3, .load), (4, .eff), (5, .eff), (6, .pure), (7, .pure), (8, .pure), (9, .pure), (10, .pure)]) mixed (by kernel_rfl) (by exact Ent.pull_drop (is := [0]) rfl) ?_
 refine RD.n rfl (p_move rfl (by conv => lhs; whnf)) ?_
 refine RD.n rfl (p_fieldAddr rfl fa_79_3 rfl) ?_
 refine RD.qq rfl rfl rfl rfl (by exact (q_load rfl sc_3 rfl (i := 0) rfl rfl)) (by exact Ent.pull_drop (is := [0]) rfl) ?_
 refine RD.qq rfl rfl rfl rfl (by exact (q_loadA rfl ag_79 ts_79 rfl (i := 0) rfl (by exact Nat.le_refl _) rfl)) (by exact Ent.pull_drop (is := [0]) rfl) ?_
 refine RD.C [] rfl rfl rfl rfl (c_call rfl rfl) (Bytes_spec y hn hf hl) rfl (by rintro _ _ ⟨rfl, rfl⟩; exact .inl (by exact Ent.pull_drop (is := [0]) rfl)) ?_
 rintro _ _ ⟨rfl, rfl⟩
 refine RD.C [] rfl rfl rfl rfl (c_call rfl rfl) (RWrite_A t y.2 1 (laidT y.1) (by omega) (by rw [laidT_length]; decide)) rfl (by rintro _ _ ⟨rfl, rfl⟩; exact .inl (by exact Ent.pull_drop (is := [0]) rfl)) ?_
 rintro _ _ ⟨rfl, rfl⟩
 refine RD.n rfl (p_move rfl (by conv => lhs; whnf)) ?_
 refine RD.n rfl (p_extract rfl rfl rfl) ?_
 refine RD.n rfl (p_extract rfl rfl rfl) ?_
 refine RD.n rfl (p_assign rfl (by conv => lhs; whnf)) ?_
 refine RD.n rfl (p_assign rfl (by conv => lhs; whnf)) ?_
 refine RD.nil ?_
 refine hK2 _ _ ?_
 refine T.seq fun K3 hK3 => ?_
 refine T.region (l := [0, 1]) rfl ?_
 refine RN.m rfl ?_
 refine RN.a rfl ?_
 refine RN.nil ?_
 refine hK3 _ _ ?_
 refine T.ret ?_
 refine bodyQ_ret [] (RetRun.tmp RetRun.nil) ⟨rfl, rfl⟩ (Ent.drop _ _)

end Go.Proofs.YtbbgajjonodlfaaGreat
namespace Go.Proofs.YtbbgajjonodlfaaGreat
open Go Go.Sl Go.Proofs
set_option maxRecDepth 20000
open Go.Mo Go.Evl
theorem tells_spec (s a c : Nat) (es : List VE) (t : List UInt8) (hv : VInv c es) (hvs : volsE es = (rvE c t 8).map Prod.fst) (ht : t.length = c * 32) (hc : 9 ≤ c ∧ c ≤ 512) : Ctr Tryz.prog 12 [ptr s 0, strV t] [row s 72 (stC 24 a c es)] (fun v Ps => v = .bool true ∧ Ps = [row s 72 (stC 24 a c es)]) := by
 refine Ctr.of_body Tryz.func12 rfl (by kernel_rfl) Tryz.ntmps12 rfl rfl (fun Fr => ?_)
 have hvl := Clean.len hvs
 have hsum := Clean.sum hvs
 refine T.seq fun K1 hK1 => ?_
 refine T.region (l := [0]) rfl ?_
 refine RN.a rfl ?_
 refine RN.nil ?_
 refine hK1 _ _ ?_
 refine T.seq fun K2 hK2 => ?_
 refine T.region (l := [0, 1, 2]) rfl ?_
 refine RN.m rfl ?_
 refine RN.C [0] rfl rfl rfl rfl (c_call rfl rfl) (Volumes_spec s a c es hv.len) rfl ?_
 rintro v9 _ ⟨hv9, rfl⟩
 refine RN.a rfl ?_
 refine RN.nil ?_
 refine hK2 _ _ ?_
 refine T.seq fun K3 hK3 => ?_
 refine T.region (l := [0, 1, 2]) rfl ?_
 refine RN.m rfl ?_
 refine RN.C [] rfl rfl rfl rfl (c_call rfl rfl) (RVolumes_spec t c ht hc) rfl ?_
 rintro v11 _ ⟨hv11, rfl⟩
 refine RN.a rfl ?_
 refine RN.nil ?_
 refine hK3 _ _ ?_
 refine T.seq fun K4 hK4 => ?_
 refine T.seq fun K5 hK5 => ?_
 refine T.region (l := [0, 1, 2, 3, 4, 5, 6, 7, 8, 9, 10, 11]) rfl ?_
 refine RN.m rfl ?_
 refine RN.u rfl (q_len_vec rfl Tryz.underlying45 rfl (i := 1) rfl) ?_
 refine RN.m rfl ?_
 refine RN.u rfl (q_len_vec rfl Tryz.underlying76 rfl (i := 0) rfl) ?_
 refine RN.p rfl (p_neq rfl rfl rfl) ?_
 refine RN.m rfl ?_
 refine RN.known 17 rfl (show _ = Value.bool false from congrArg Value.bool (decide_eq_false (not_not_intro (congrArg (fun n : Nat => (n : Int)) hvl)))) ?_
 refine RN.m rfl ?_
 refine RN.C [2] rfl rfl rfl rfl (c_call rfl rfl) (Free_spec s a c es hv (by omega)) rfl ?_
 rintro _ _ ⟨rfl, rfl⟩
 refine RN.m rfl ?_
 refine RN.C [] rfl rfl rfl rfl (c_call rfl rfl) (RFree_spec t c ht hc) rfl ?_
 rintro _ _ ⟨rfl, rfl⟩
 refine RN.p rfl (p_neq rfl rfl rfl) ?_
 refine RN.pf rfl ?_
 refine RN.nil ?_
 refine hK5 _ _ ?_
 refine T.known 23 rfl (show _ = Value.bool false from congrArg Value.bool (decide_eq_false (not_not_intro (by rw [hsum])))) ?_
 refine T.cond_f rfl ?_
 refine T.skip ?_
 refine hK4 _ _ ?_
 refine T.seq fun K6 hK6 => ?_
 refine T.seq fun K7 hK7 => ?_
 refine T.region (l := [0]) rfl ?_
 refine RN.a rfl ?_
 refine RN.nil ?_
 refine hK7 _ _ ?_
 refine T.block ?_
 refine T.loop (G := Nat × List VE) (fun ⟨i, us⟩ => i ≤ (volsE es).length ∧ us.length = (volsE es).length ∧ ∀ j, i ≤ j → us[j]? = (volsE es)[j]?) (fun ⟨i, us⟩ => [(5, v9), (6, v11), (7, intV i)]) (fun ⟨i, us⟩ => [vec 79 4 v11 (rvE c t 8).length (flR (rvE c t 8)), vec 49 3 v9 (volsE es).length (flE us), row s 72 (stC 24 a c es), Fr]) (fun ⟨i, us⟩ => (volsE es).length - i) (0, volsE es) ⟨Nat.zero_le _, rfl, fun _ _ => rfl⟩ (LiveIs.cons rfl (LiveIs.cons rfl (LiveIs.cons rfl LiveIs.nil))) (by exact Ent.pull_drop (is := [1, 1, 0, 0]) rfl) ?_
 rintro ⟨i, us⟩ e8 ⟨hik, hul, hus⟩
 dsimp only
 refine T.seq fun K9 hK9 => ?_
 refine T.seq fun K10 hK10 => ?_
 refine T.region (l := [0, 1, 2, 3]) rfl ?_
 refine RN.m rfl ?_
 refine RN.m rfl ?_
 refine RN.u rfl (q_len_vec rfl Tryz.underlying45 rfl (i := 1) rfl) ?_
 refine RN.p rfl (p_lss rfl rfl rfl) ?_
 refine RN.nil ?_
 refine hK10 _ _ ?_
 refine T.cond_dec rfl (fun h27 => ?_) (fun h27 => ?_)
 ·
  have hk : i < (volsE es).length := by omega
  have hkr : i < (rvE c t 8).length := by omega
  have hku : i < us.length := by omega
  have hue : us[i] = (rvE c t 8)[i].1 := by
   have h1 := hus i (Nat.le_refl _)
   rw [List.getElem?_eq_getElem hku, List.getElem?_eq_getElem hk] at h1
   exact (Option.some.inj h1).trans (Clean.nth hvs hk hkr)
  refine T.skip ?_
  refine hK9 _ _ ?_
  refine T.seq fun K11 hK11 => ?_
  refine T.block ?_
  refine T.seq fun K12 hK12 => ?_
  refine T.seq fun K13 hK13 => ?_
  refine T.openVec 1 rfl (by omega) ?_
  rintro bv capv restv rfl hv1 hv2 hv3
  refine T.openVec 0 rfl (by omega) ?_
  rintro bw capw restw rfl hw1 hw2 hw3
  refine T.regionD (z := 37) (Bs := [row bw 79 (flR (rvE c t 8) ++ restw), row bv 49 (flE us ++ restv)]) (l := [(0, .pure), (1, .pure), (2, .pure), (3, .pure), (4, .load), (5, .pure), (6, .pure), (7, .pure), (8, .pure), (9, .load), (10, .pure), (11, .pure), (12, .pure), (13, .pure), (14, .pure), (15, .pure), (16, .load), (17, .pure), (18, .pure), (19, .pure), (20, .pure), (21, .load), (22, .pure), (23, .pure), (24, .pure), (25, .pure), (26, .pure), (27, .pure), (28, .pure), (29, .load), (30, .pure), (31, .pure), (32, .pure), (33, .pure), (34, .load), (35, .pure), (36, .pure)]) mixed (by kernel_rfl) (by exact Ent.pull_drop (is := [0, 0]) rfl) ?_
  refine RD.n rfl (p_move rfl (by conv => lhs; whnf)) ?_
  refine RD.n rfl (p_move rfl (by conv => lhs; whnf)) ?_
  refine RD.n rfl (by exact (p_indexAddrN rfl Tryz.underlying45 ts_49 rfl rfl (by omega))) ?_
  refine RD.n rfl (p_fieldAddr rfl fa_49_0 rfl) ?_
  refine RD.qq rfl rfl rfl rfl (by exact (q_load rfl sc_9 rfl (i := 1) rfl (flE_atK (k := 0) hku rfl))) (by exact Ent.pull_drop (is := [0, 0]) rfl) ?_
  refine RD.n rfl (p_move rfl (by conv => lhs; whnf)) ?_
  refine RD.n rfl (p_move rfl (by conv => lhs; whnf)) ?_
  refine RD.n rfl (by exact (p_indexAddrN rfl Tryz.underlying76 ts_79 rfl rfl (by omega))) ?_
  refine RD.n rfl (p_fieldAddr rfl fa_79_0 rfl) ?_
  refine RD.qq rfl rfl rfl rfl (by exact (q_load rfl sc_9 rfl (i := 0) rfl (flR_atK (k := 0) hkr rfl))) (by exact Ent.pull_drop (is := [0, 0]) rfl) ?_
  refine RD.n rfl (p_sneq rfl rfl rfl) ?_
  refine RD.n rfl (p_move rfl (by conv => lhs; whnf)) ?_
  refine RD.known 41 rfl (show _ = Value.bool false from congrArg Value.bool (decide_eq_false (not_not_intro (congrArg VE.name hue)))) ?_
  refine RD.n rfl (p_move rfl (by conv => lhs; whnf)) ?_
  refine RD.n rfl (p_move rfl (by conv => lhs; whnf)) ?_
  refine RD.n rfl (by exact (p_indexAddrN rfl Tryz.underlying45 ts_49 rfl rfl (by omega))) ?_
  refine RD.n rfl (p_fieldAddr rfl fa_49_1 rfl) ?_
  refine RD.qq rfl rfl rfl rfl (by exact (q_load rfl sc_3 rfl (i := 1) rfl (flE_atK (k := 1) hku rfl))) (by exact Ent.pull_drop (is := [0, 0]) rfl) ?_
  refine RD.n rfl (p_move rfl (by conv => lhs; whnf)) ?_
  refine RD.n rfl (p_move rfl (by conv => lhs; whnf)) ?_
  refine RD.n rfl (by exact (p_indexAddrN rfl Tryz.underlying76 ts_79 rfl rfl (by omega))) ?_
  refine RD.n rfl (p_fieldAddr rfl fa_79_1 rfl) ?_
  refine RD.qq rfl rfl rfl rfl (by exact (q_load rfl sc_3 rfl (i := 0) rfl (flR_atK (k := 1) hkr rfl))) (by exact Ent.pull_drop (is := [0, 0]) rfl) ?_
  refine RD.n rfl (p_neq rfl rfl rfl) ?_
  refine RD.n rfl (p_pick_f rfl rfl (by conv => lhs; whnf)) ?_
  refine RD.n rfl (p_move rfl (by conv => lhs; whnf)) ?_
  refine RD.known 54 rfl (show _ = Value.bool false from congrArg Value.bool (decide_eq_false (not_not_intro (congrArg (fun x : VE => ((x.first : Nat) : Int)) hue)))) ?_
  refine RD.n rfl (p_move rfl (by conv => lhs; whnf)) ?_
  refine RD.n rfl (p_move rfl (by conv => lhs; whnf)) ?_
  refine RD.n rfl (by exact (p_indexAddrN rfl Tryz.underlying45 ts_49 rfl rfl (by omega))) ?_
  refine RD.n rfl (p_fieldAddr rfl fa_49_2 rfl) ?_
  refine RD.qq rfl rfl rfl rfl (by exact (q_load rfl sc_3 rfl (i := 1) rfl (flE_atK (k := 2) hku rfl))) (by exact Ent.pull_drop (is := [0, 0]) rfl) ?_
  refine RD.n rfl (p_move rfl (by conv => lhs; whnf)) ?_
  refine RD.n rfl (p_move rfl (by conv => lhs; whnf)) ?_
  refine RD.n rfl (by exact (p_indexAddrN rfl Tryz.underlying76 ts_79 rfl rfl (by omega))) ?_
  refine RD.n rfl (p_fieldAddr rfl fa_79_2 rfl) ?_
  refine RD.qq rfl rfl rfl rfl (by exact (q_load rfl sc_3 rfl (i := 0) rfl (flR_atK (k := 2) hkr rfl))) (by exact Ent.pull_drop (is := [0, 0]) rfl) ?_
  refine RD.n rfl (p_neq rfl rfl rfl) ?_
  refine RD.n rfl (p_pick_f rfl rfl (by conv => lhs; whnf)) ?_
  refine RD.nil ?_
  refine hK13 _ _ ?_
  refine T.known 66 rfl (show _ = Value.bool false from congrArg Value.bool (decide_eq_false (not_not_intro (congrArg (fun x : VE => ((x.len : Nat) : Int)) hue)))) ?_
  refine T.cond_f rfl ?_
  refine T.skip ?_
  refine hK12 _ _ ?_
  refine T.region (l := [0, 1, 2, 3, 4]) rfl ?_
  refine RN.m rfl ?_
  refine RN.m rfl ?_
  refine RN.p rfl (by exact (p_indexAddrN rfl Tryz.underlying45 ts_49 rfl rfl (by omega))) ?_
  refine RN.p rfl (p_fieldAddr rfl fa_49_2 rfl) ?_
  refine RN.EN rfl rfl rfl (by exact (e_store rfl ts_3 rfl (by conv => lhs; whnf) (by rfl) (i := 1) rfl (by rw [List.length_append, flE_length]; omega))) ?_
  rintro _ _ ⟨rfl, rfl⟩
  refine RN.nil ?_
  refine hK11 _ _ ?_
  refine T.region (l := [0, 1, 2]) rfl ?_
  refine RN.m rfl ?_
  refine RN.p rfl (by exact (p_addN (b := 1) rfl rfl rfl (by omega))) ?_
  refine RN.a rfl ?_
  refine RN.nil ?_
  refine ⟨(i + 1, us.set i ⟨us[i].name, us[i].first, 99⟩), ⟨by omega, by rw [List.length_set]; exact hul, fun j hj => by rw [List.getElem?_set_ne (by omega)]; exact hus j (by omega)⟩, (by simp; omega), (LiveIs.cons rfl (LiveIs.cons rfl (LiveIs.cons rfl LiveIs.nil))), (Ent.cons (vec_of_row (flR_length _) hw1 hw2 hw3) (Ent.cons ((Ent.of_eq (congrArg (row bv 49) (flE_setlen hku))).trans (vec_of_row (by rw [flE_length, List.length_set, hul]) hv1 hv2 (by rw [List.length_append, flE_length, List.length_set, ← flE_length us, ← List.length_append]; exact hv3))) (Ent.refl _)))⟩
 ·
  refine T.exit ?_
  refine Post.seq_x ?_
  refine Post.seq_x ?_
  refine Post.block_hit ?_
  refine hK6 _ _ ?_
  refine T.seq fun K14 hK14 => ?_
  refine T.region (l := [0]) rfl ?_
  refine RN.a rfl ?_
  refine RN.nil ?_
  refine hK14 _ _ ?_
  refine T.ret ?_
  refine bodyQ_ret [row s 72 (stC 24 a c es)] (RetRun.tmp RetRun.nil) ⟨rfl, rfl⟩ (Ent.pull_drop (is := [2, 2]) rfl)

end Go.Proofs.YtbbgajjonodlfaaGreat
namespace Go.Proofs.YtbbgajjonodlfaaGreat
open Go Go.Sl Go.Proofs
set_option maxRecDepth 20000
open Go.Mo Go.Evl
theorem RDelete_spec (t : List UInt8) (c : Nat) (es : List VE) (h : Go.Mo.Clean c es t) (name : List UInt8) : Ctr Tryz.prog 37 [strV t, strV name] [] (fun v Ps => v = .tuple #[strV (delV es t name).2.2, .int .i64 (delV es t name).1] ∧ Ps = []) := by
 refine Ctr.of_body Tryz.func37 rfl (by kernel_rfl) Tryz.ntmps37 rfl rfl (fun Fr => ?_)
 have ht := h.tl
 have hc := h.c9
 have hlen := h.v.len
 refine T.seq fun K1 hK1 => ?_
 refine T.region (l := [0, 1]) rfl ?_
 refine RN.a rfl ?_
 refine RN.a rfl ?_
 refine RN.nil ?_
 refine hK1 _ _ ?_
 refine T.seq fun K2 hK2 => ?_
 refine T.region (l := [0, 1, 2]) rfl ?_
 refine RN.m rfl ?_
 refine RN.C [] rfl rfl rfl rfl (c_call rfl rfl) (RVolumes_spec t c ht hc) rfl ?_
 rintro v11 _ ⟨hv11, rfl⟩
 refine RN.a rfl ?_
 refine RN.nil ?_
 refine hK2 _ _ ?_
 refine T.seq fun K3 hK3 => ?_
 refine T.region (l := [0, 1, 2, 3]) rfl ?_
 refine RN.m rfl ?_
 refine RN.m rfl ?_
 refine RN.C [0] rfl rfl rfl rfl (c_call rfl rfl) (RFind_spec v11 (rvE c t 8) name) rfl ?_
 rintro _ _ ⟨r, rfl, hr, rfl⟩
 refine RN.a rfl ?_
 refine RN.nil ?_
 refine hK3 _ _ ?_
 refine T.seq fun K4 hK4 => ?_
 refine T.seq fun K5 hK5 => ?_
 refine T.region (l := [0, 1]) rfl ?_
 refine RN.m rfl ?_
 refine RN.p rfl (p_lss rfl rfl rfl) ?_
 refine RN.nil ?_
 refine hK5 _ _ ?_
 refine T.cond_dec rfl (fun h16 => ?_) (fun h16 => ?_)
 ·
  have hf := h.find_none hr (by omega)
  refine T.seq fun K6 hK6 => ?_
  refine T.region (l := [0, 1, 2]) rfl ?_
  refine RN.m rfl ?_
  refine RN.a rfl ?_
  refine RN.a rfl ?_
  refine RN.nil ?_
  refine hK6 _ _ ?_
  refine T.ret ?_
  refine Post.seq_r ?_
  refine bodyQ_ret [] (RetRun.tmp (RetRun.tmp RetRun.nil)) ⟨by rw [del_none hf]; rfl, rfl⟩ (Ent.drop _ _)
 ·
  obtain ⟨j, hj, rfl, hf, hi, he⟩ := h.find_some hr (by omega)
  obtain ⟨hjk, _, hjl⟩ := rv_get hj
  have hjo := rv_ok hj
  have hjc := hjo.2.2.2
  refine T.skip ?_
  refine hK4 _ _ ?_
  refine T.seq fun K7 hK7 => ?_
  refine T.openVec 0 rfl (by omega) ?_
  rintro bw capw restw rfl hw1 hw2 hw3
  refine T.region (l := [0, 1, 2, 3, 4, 5, 6, 7, 8, 9, 10, 11]) rfl ?_
  refine RN.m rfl ?_
  refine RN.m rfl ?_
  refine RN.m rfl ?_
  refine RN.p rfl (by exact (p_indexAddrN rfl Tryz.underlying76 ts_79 rfl rfl (by omega))) ?_
  refine RN.p rfl (p_fieldAddr rfl fa_79_3 rfl) ?_
  refine RN.u rfl (by exact (q_load rfl sc_3 rfl (i := 0) rfl (flR_atK (k := 3) hj rfl))) ?_
  refine RN.C [] rfl rfl rfl rfl (c_call rfl rfl) (RWrite_A t ((rvE c t 8)[j].2 : Nat) 1 [] (by omega) (by simp)) rfl ?_
  rintro _ _ ⟨rfl, rfl⟩
  refine RN.m rfl ?_
  refine RN.p rfl (p_extract rfl rfl rfl) ?_
  refine RN.p rfl (p_extract rfl rfl rfl) ?_
  refine RN.a rfl ?_
  refine RN.a rfl ?_
  refine RN.nil ?_
  refine hK7 _ _ ?_
  refine T.seq fun K8 hK8 => ?_
  refine T.region (l := [0, 1, 2]) rfl ?_
  refine RN.m rfl ?_
  refine RN.a rfl ?_
  refine RN.a rfl ?_
  refine RN.nil ?_
  refine hK8 _ _ ?_
  refine T.ret ?_
  refine bodyQ_ret [] (RetRun.tmp (RetRun.tmp RetRun.nil)) ⟨by rw [del_some hf]; rfl, rfl⟩ (Ent.drop _ _)

theorem RRename_spec (t : List UInt8) (c : Nat) (es : List VE) (h : Go.Mo.Clean c es t) (name to_ : List UInt8) : Ctr Tryz.prog 38 [strV t, strV name, strV to_] [] (fun v Ps => v = .tuple #[strV (renV es t name to_).2.2, .int .i64 (renV es t name to_).1] ∧ Ps = []) := by
 refine Ctr.of_body Tryz.func38 rfl (by kernel_rfl) Tryz.ntmps38 rfl rfl (fun Fr => ?_)
 have ht := h.tl
 have hc := h.c9
 have hlen := h.v.len
 refine T.seq fun K1 hK1 => ?_
 refine T.region (l := [0, 1]) rfl ?_
 refine RN.a rfl ?_
 refine RN.a rfl ?_
 refine RN.nil ?_
 refine hK1 _ _ ?_
 refine T.seq fun K2 hK2 => ?_
 refine T.region (l := [0, 1, 2]) rfl ?_
 refine RN.m rfl ?_
 refine RN.C [] rfl rfl rfl rfl (c_call rfl rfl) (RVolumes_spec t c ht hc) rfl ?_
 rintro v11 _ ⟨hv11, rfl⟩
 refine RN.a rfl ?_
 refine RN.nil ?_
 refine hK2 _ _ ?_
 refine T.seq fun K3 hK3 => ?_
 refine T.region (l := [0, 1, 2, 3]) rfl ?_
 refine RN.m rfl ?_
 refine RN.m rfl ?_
 refine RN.C [0] rfl rfl rfl rfl (c_call rfl rfl) (RFind_spec v11 (rvE c t 8) name) rfl ?_
 rintro _ _ ⟨r, rfl, hr, rfl⟩
 refine RN.a rfl ?_
 refine RN.nil ?_
 refine hK3 _ _ ?_
 refine T.seq fun K4 hK4 => ?_
 refine T.seq fun K5 hK5 => ?_
 refine T.region (l := [0, 1]) rfl ?_
 refine RN.m rfl ?_
 refine RN.p rfl (p_lss rfl rfl rfl) ?_
 refine RN.nil ?_
 refine hK5 _ _ ?_
 refine T.cond_dec rfl (fun h16 => ?_) (fun h16 => ?_)
 ·
  have hf := h.find_none hr (by omega)
  refine T.seq fun K6 hK6 => ?_
  refine T.region (l := [0, 1, 2]) rfl ?_
  refine RN.m rfl ?_
  refine RN.a rfl ?_
  refine RN.a rfl ?_
  refine RN.nil ?_
  refine hK6 _ _ ?_
  refine T.ret ?_
  refine Post.seq_r ?_
  have ho := oth_none (to_ := to_) hf
  refine bodyQ_ret [] (RetRun.tmp (RetRun.tmp RetRun.nil)) ⟨by rw [ren_no (by rw [ho]; decide), ho]; rfl, rfl⟩ (Ent.drop _ _)
 ·
  obtain ⟨j, hj, rfl, hf, hi, he⟩ := h.find_some hr (by omega)
  obtain ⟨hjk, _, hjl⟩ := rv_get hj
  have hjo := rv_ok hj
  have hjc := hjo.2.2.2
  refine T.skip ?_
  refine hK4 _ _ ?_
  refine T.seq fun K7 hK7 => ?_
  refine T.seq fun K8 hK8 => ?_
  refine T.region (l := [0, 1, 2]) rfl ?_
  refine RN.m rfl ?_
  refine RN.C [] rfl rfl rfl rfl (c_call rfl rfl) (RGood_A to_) rfl ?_
  rintro _ _ ⟨rfl, rfl⟩
  refine RN.p rfl (by exact (p_not rfl rfl)) ?_
  refine RN.nil ?_
  refine hK8 _ _ ?_
  refine T.cond rfl (fun h20 => ?_) (fun h20 => ?_)
  ·
   have hg : ¬ gb to_ = true := by simpa using h20
   refine T.seq fun K9 hK9 => ?_
   refine T.region (l := [0, 1, 2]) rfl ?_
   refine RN.m rfl ?_
   refine RN.a rfl ?_
   refine RN.a rfl ?_
   refine RN.nil ?_
   refine hK9 _ _ ?_
   refine T.ret ?_
   refine Post.seq_r ?_
   have ho := oth_bad (to_ := to_) hf hg
   refine bodyQ_ret [] (RetRun.tmp (RetRun.tmp RetRun.nil)) ⟨by rw [ren_no (by rw [ho]; decide), ho]; rfl, rfl⟩ (Ent.drop _ _)
  ·
   have hg : gb to_ = true := by simpa using h20
   refine T.skip ?_
   refine hK7 _ _ ?_
   refine T.seq fun K10 hK10 => ?_
   refine T.seq fun K11 hK11 => ?_
   refine T.region (l := [0, 1, 2, 3]) rfl ?_
   refine RN.m rfl ?_
   refine RN.m rfl ?_
   refine RN.C [0] rfl rfl rfl rfl (c_call rfl rfl) (RFind_spec v11 (rvE c t 8) to_) rfl ?_
   rintro _ _ ⟨r2, rfl, hr2, rfl⟩
   refine RN.p rfl (p_geq rfl rfl rfl) ?_
   refine RN.nil ?_
   refine hK11 _ _ ?_
   refine T.cond_dec rfl (fun h25 => ?_) (fun h25 => ?_)
   ·
    obtain ⟨j2, _, _, hf2, _⟩ := h.find_some hr2 (by omega)
    refine T.seq fun K12 hK12 => ?_
    refine T.region (l := [0, 1, 2]) rfl ?_
    refine RN.m rfl ?_
    refine RN.a rfl ?_
    refine RN.a rfl ?_
    refine RN.nil ?_
    refine hK12 _ _ ?_
    refine T.ret ?_
    refine Post.seq_r ?_
    have ho := oth_two hf hg hf2
    refine bodyQ_ret [] (RetRun.tmp (RetRun.tmp RetRun.nil)) ⟨by rw [ren_no (by rw [ho]; decide), ho]; rfl, rfl⟩ (Ent.drop _ _)
   ·
    have hf2 : findE es to_ = none := h.find_none hr2 (by omega)
    refine T.skip ?_
    refine hK10 _ _ ?_
    refine T.seq fun K13 hK13 => ?_
    refine T.openVec 0 rfl (by omega) ?_
    rintro bw capw restw rfl hw1 hw2 hw3
    refine T.region (l := [0, 1, 2, 3, 4, 5]) rfl ?_
    refine RN.m rfl ?_
    refine RN.m rfl ?_
    refine RN.m rfl ?_
    refine RN.p rfl (by exact (p_indexAddrN rfl Tryz.underlying76 ts_79 rfl rfl (by omega))) ?_
    refine RN.p rfl (p_fieldAddr rfl fa_79_0 rfl) ?_
    refine RN.EN rfl rfl rfl (by exact (e_store rfl ts_9 rfl (by conv => lhs; whnf) (by rfl) (i := 0) rfl (by rw [List.length_append, flR_length]; omega))) ?_
    rintro _ _ ⟨rfl, rfl⟩
    refine RN.nil ?_
    refine hK13 _ _ ?_
    refine T.seq fun K14 hK14 => ?_
    refine T.region (l := [0, 1, 2, 3, 4, 5, 6, 7]) rfl ?_
    refine RN.m rfl ?_
    refine RN.m rfl ?_
    refine RN.m rfl ?_
    refine RN.p rfl (by exact (p_indexAddrN rfl Tryz.underlying76 ts_79 rfl rfl (by omega))) ?_
    refine RN.u rfl (by exact (q_loadA rfl ag_79 ts_79 rfl (i := 0) rfl (by rw [List.length_set, List.length_append, flR_length]; omega) (flR_name hj))) ?_
    refine RN.C [] rfl rfl rfl rfl (c_call rfl rfl) (rput_spec t (⟨to_, (rvE c t 8)[j].1.first, (rvE c t 8)[j].1.len⟩, (rvE c t 8)[j].2) (by omega) (gb_len hg).2 (by show (rvE c t 8)[j].1.first < 65536; omega) (by show (rvE c t 8)[j].1.len < 65536; omega)) rfl ?_
    rintro _ _ ⟨rfl, rfl⟩
    refine RN.a rfl ?_
    refine RN.a rfl ?_
    refine RN.nil ?_
    refine hK14 _ _ ?_
    refine T.ret ?_
    have ho := oth_ok hf hg hf2
    have hr := ren_yes (t := t) (es := es) (name := name) (to_ := to_) (by rw [ho]) (by rw [ho]; exact hi)
    simp only [ho, he] at hr
    refine bodyQ_ret [] (RetRun.tmp (RetRun.tmp RetRun.nil)) ⟨by rw [hr]; rfl, rfl⟩ (Ent.drop _ _)

theorem RPlace_spec (t : List UInt8) (c : Nat) (es : List VE) (h : Go.Mo.Clean c es t) (name : List UInt8) (at_ n : Int) : Ctr Tryz.prog 40 [strV t, strV name, .int .i64 at_, .int .i64 n] [] (fun v Ps => v = .tuple #[.int .i64 (plcE es name at_ n).1, .int .i64 (plcE es name at_ n).2] ∧ Ps = []) := by
 refine Ctr.of_body Tryz.func40 rfl (by kernel_rfl) Tryz.ntmps40 rfl rfl (fun Fr => ?_)
 have ht := h.tl
 have hc := h.c9
 have hlen := h.v.len
 refine T.seq fun K1 hK1 => ?_
 refine T.region (l := [0, 1]) rfl ?_
 refine RN.a rfl ?_
 refine RN.a rfl ?_
 refine RN.nil ?_
 refine hK1 _ _ ?_
 refine T.seq fun K2 hK2 => ?_
 refine T.region (l := [0, 1, 2]) rfl ?_
 refine RN.m rfl ?_
 refine RN.C [] rfl rfl rfl rfl (c_call rfl rfl) (RVolumes_spec t c ht hc) rfl ?_
 rintro v13 _ ⟨hv13, rfl⟩
 refine RN.a rfl ?_
 refine RN.nil ?_
 refine hK2 _ _ ?_
 refine T.seq fun K3 hK3 => ?_
 refine T.region (l := [0, 1, 2, 3]) rfl ?_
 refine RN.m rfl ?_
 refine RN.m rfl ?_
 refine RN.C [0] rfl rfl rfl rfl (c_call rfl rfl) (RFind_spec v13 (rvE c t 8) name) rfl ?_
 rintro _ _ ⟨r, rfl, hr, rfl⟩
 refine RN.a rfl ?_
 refine RN.nil ?_
 refine hK3 _ _ ?_
 refine T.seq fun K4 hK4 => ?_
 refine T.seq fun K5 hK5 => ?_
 refine T.region (l := [0, 1]) rfl ?_
 refine RN.m rfl ?_
 refine RN.p rfl (p_lss rfl rfl rfl) ?_
 refine RN.nil ?_
 refine hK5 _ _ ?_
 refine T.cond_dec rfl (fun h18 => ?_) (fun h18 => ?_)
 ·
  have hf := h.find_none hr (by omega)
  refine T.seq fun K6 hK6 => ?_
  refine T.region (l := [0, 1]) rfl ?_
  refine RN.a rfl ?_
  refine RN.a rfl ?_
  refine RN.nil ?_
  refine hK6 _ _ ?_
  refine T.ret ?_
  refine Post.seq_r ?_
  refine bodyQ_ret [] (RetRun.tmp (RetRun.tmp RetRun.nil)) ⟨by rw [plc_none hf]; rfl, rfl⟩ (Ent.drop _ _)
 ·
  obtain ⟨j, hj, rfl, hf, hi, he⟩ := h.find_some hr (by omega)
  obtain ⟨hjk, _, hjl⟩ := rv_get hj
  have hjo := rv_ok hj
  have hjc := hjo.2.2.2
  refine T.skip ?_
  refine hK4 _ _ ?_
  refine T.seq fun K7 hK7 => ?_
  refine T.seq fun K8 hK8 => ?_
  refine T.openVec 0 rfl (by omega) ?_
  rintro bw capw restw rfl hw1 hw2 hw3
  refine T.region (l := [0, 1, 2, 3, 4, 5, 6, 7, 8]) rfl ?_
  refine RN.m rfl ?_
  refine RN.m rfl ?_
  refine RN.p rfl (by exact (p_indexAddrN rfl Tryz.underlying76 ts_79 rfl rfl (by omega))) ?_
  refine RN.p rfl (p_fieldAddr rfl fa_79_2 rfl) ?_
  refine RN.u rfl (by exact (q_load rfl sc_3 rfl (i := 0) rfl (flR_atK (k := 2) hj rfl))) ?_
  refine RN.m rfl ?_
  refine RN.m rfl ?_
  refine RN.C [] rfl rfl rfl rfl (c_call rfl rfl) (Right9_spec ((rvE c t 8)[j].1.len : Nat) at_ n (by omega)) rfl ?_
  rintro _ _ ⟨rfl, rfl⟩
  refine RN.p rfl (by exact (p_not_dec rfl rfl)) ?_
  refine RN.nil ?_
  refine hK8 _ _ ?_
  refine T.cond_dec rfl (fun h27 => ?_) (fun h27 => ?_)
  ·
   have hR : ¬ Right ((rvE c t 8)[j].1.len : Nat) at_ n := h27
   refine T.seq fun K9 hK9 => ?_
   refine T.region (l := [0, 1]) rfl ?_
   refine RN.a rfl ?_
   refine RN.a rfl ?_
   refine RN.nil ?_
   refine hK9 _ _ ?_
   refine T.ret ?_
   refine Post.seq_r ?_
   refine bodyQ_ret [] (RetRun.tmp (RetRun.tmp RetRun.nil)) ⟨by rw [plc_no hf hi (by rw [he]; exact hR)]; rfl, rfl⟩ (Ent.drop _ _)
  ·
   have hR : Right ((rvE c t 8)[j].1.len : Nat) at_ n := Classical.not_not.1 h27
   refine T.skip ?_
   refine hK7 _ _ ?_
   refine T.seq fun K10 hK10 => ?_
   refine T.region (l := [0, 1, 2, 3, 4, 5, 6, 7, 8]) rfl ?_
   refine RN.m rfl ?_
   refine RN.m rfl ?_
   refine RN.p rfl (by exact (p_indexAddrN rfl Tryz.underlying76 ts_79 rfl rfl (by omega))) ?_
   refine RN.p rfl (p_fieldAddr rfl fa_79_1 rfl) ?_
   refine RN.u rfl (by exact (q_load rfl sc_3 rfl (i := 0) rfl (flR_atK (k := 1) hj rfl))) ?_
   refine RN.m rfl ?_
   refine RN.p rfl (by exact (p_add rfl rfl rfl (by unfold Right at hR; omega))) ?_
   refine RN.a rfl ?_
   refine RN.a rfl ?_
   refine RN.nil ?_
   refine hK10 _ _ ?_
   refine T.ret ?_
   refine bodyQ_ret [] (RetRun.tmp (RetRun.tmp RetRun.nil)) ⟨by rw [plc_yes hf hi (by rw [he]; exact hR), he]; rfl, rfl⟩ (Ent.drop _ _)

end Go.Proofs.YtbbgajjonodlfaaGreat
