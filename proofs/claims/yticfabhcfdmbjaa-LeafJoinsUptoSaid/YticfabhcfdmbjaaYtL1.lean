/-
  Walks of leaf.
-/
import Derived.Test.YticfabhcfdmbjaaYtTy
import Derived.Test.YticfabhcfdmbjaaModelQ
set_option linter.unusedVariables false
set_option linter.unusedSimpArgs false
namespace Go.Proofs.Yticfabhcfdmbjaa
open Go Go.Sl Go.Proofs
set_option maxRecDepth 20000
open Go.Mo
theorem NanU_spec (a : Int) : Ctr Try.prog 50 [.int .u32 a] [] (fun v Ps => v = .bool false ∧ Ps = []) := by
  refine Ctr.of_body Try.func50 rfl (by kernel_rfl) Try.ntmps50 rfl rfl (fun Fr => ?_)
  refine T.seq fun K1 hK1 => ?_
  refine T.region (l := [0]) rfl ?_
  refine RN.qq rfl rfl rfl rfl (PRun.q (p_assign rfl (by conv => lhs; whnf))) ?_
  refine RN.nil ?_
  refine hK1 _ _ ?_
  refine T.seq fun K2 hK2 => ?_
  refine T.region (l := [0, 1, 2, 3]) rfl ?_
  refine RN.qq rfl rfl rfl rfl (PRun.q (p_move rfl (by conv => lhs; whnf))) ?_
  refine RN.qq rfl rfl rfl rfl (PRun.q (p_move rfl (by conv => lhs; whnf))) ?_
  refine RN.qq rfl rfl rfl rfl (PRun.q (p_neq rfl rfl rfl)) ?_
  refine RN.qq rfl rfl rfl rfl (PRun.q (p_assign rfl (by conv => lhs; whnf))) ?_
  refine RN.nil ?_
  refine hK2 _ _ ?_
  refine T.ret ?_
  refine bodyQ_ret [] (RetRun.tmp RetRun.nil) ⟨congrArg Value.bool (decide_eq_false (not_not_intro rfl)), rfl⟩ (Ent.refl _)

theorem CmpU_spec (a b : Int) : Ctr Try.prog 42 [.int .u32 a, .int .u32 b] [] (fun v Ps => v = .int .i64 (if a < b then -1 else if b < a then 1 else 0) ∧ Ps = []) := by
  refine Ctr.of_body Try.func42 rfl (by kernel_rfl) Try.ntmps42 rfl rfl (fun Fr => ?_)
  refine T.seq fun K1 hK1 => ?_
  refine T.region (l := [0]) rfl ?_
  refine RN.qq rfl rfl rfl rfl (PRun.q (p_assign rfl (by conv => lhs; whnf))) ?_
  refine RN.nil ?_
  refine hK1 _ _ ?_
  refine T.seq fun K2 hK2 => ?_
  refine T.region (l := [0, 1, 2]) rfl ?_
  refine RN.qq rfl rfl rfl rfl (PRun.q (p_move rfl (by conv => lhs; whnf))) ?_
  refine RN.C [] rfl rfl rfl rfl (c_call rfl rfl) (NanU_spec a) rfl ?_
  rintro _ _ ⟨rfl, rfl⟩
  refine RN.qq rfl rfl rfl rfl (PRun.q (p_assign rfl (by conv => lhs; whnf))) ?_
  refine RN.nil ?_
  refine hK2 _ _ ?_
  refine T.seq fun K3 hK3 => ?_
  refine T.region (l := [0, 1, 2]) rfl ?_
  refine RN.qq rfl rfl rfl rfl (PRun.q (p_move rfl (by conv => lhs; whnf))) ?_
  refine RN.C [] rfl rfl rfl rfl (c_call rfl rfl) (NanU_spec b) rfl ?_
  rintro _ _ ⟨rfl, rfl⟩
  refine RN.qq rfl rfl rfl rfl (PRun.q (p_assign rfl (by conv => lhs; whnf))) ?_
  refine RN.nil ?_
  refine hK3 _ _ ?_
  refine T.seq fun K4 hK4 => ?_
  refine T.seq fun K5 hK5 => ?_
  refine T.region (l := [0]) rfl ?_
  refine RN.qq rfl rfl rfl rfl (PRun.q (p_move rfl (by conv => lhs; whnf))) ?_
  refine RN.nil ?_
  refine hK5 _ _ ?_
  refine T.known 11 rfl (show _ = Value.bool false from rfl) ?_
  refine T.cond_f rfl ?_
  refine T.skip ?_
  refine hK4 _ _ ?_
  refine T.seq fun K6 hK6 => ?_
  refine T.seq fun K7 hK7 => ?_
  refine T.region (l := [0]) rfl ?_
  refine RN.qq rfl rfl rfl rfl (PRun.q (p_move rfl (by conv => lhs; whnf))) ?_
  refine RN.nil ?_
  refine hK7 _ _ ?_
  refine T.known 13 rfl (show _ = Value.bool false from rfl) ?_
  refine T.cond_f rfl ?_
  refine T.skip ?_
  refine hK6 _ _ ?_
  refine T.seq fun K8 hK8 => ?_
  refine T.seq fun K9 hK9 => ?_
  refine T.region (l := [0, 1, 2]) rfl ?_
  refine RN.qq rfl rfl rfl rfl (PRun.q (p_move rfl (by conv => lhs; whnf))) ?_
  refine RN.qq rfl rfl rfl rfl (PRun.q (p_move rfl (by conv => lhs; whnf))) ?_
  refine RN.qq rfl rfl rfl rfl (PRun.q (p_lss rfl rfl rfl)) ?_
  refine RN.nil ?_
  refine hK9 _ _ ?_
  first | refine T.cond_dec rfl (fun h16 => ?_) (fun h16 => ?_) | refine T.cond rfl (fun h16 => ?_) (fun h16 => ?_)
  ·
    refine T.seq fun K10 hK10 => ?_
    refine T.region (l := [0]) rfl ?_
    refine RN.qq rfl rfl rfl rfl (PRun.q (p_assign rfl (by conv => lhs; whnf))) ?_
    refine RN.nil ?_
    refine hK10 _ _ ?_
    refine T.ret ?_
    refine Post.seq_r ?_
    refine bodyQ_ret [] (RetRun.tmp RetRun.nil) ⟨by first | rw [if_pos (by omega)]; rfl | (rw [if_neg (by omega), if_pos (by omega)]; rfl) | (rw [if_neg (by omega), if_neg (by omega)]; rfl), rfl⟩ (Ent.refl _)
  ·
    refine T.skip ?_
    refine hK8 _ _ ?_
    refine T.seq fun K11 hK11 => ?_
    refine T.seq fun K12 hK12 => ?_
    refine T.region (l := [0, 1, 2]) rfl ?_
    refine RN.qq rfl rfl rfl rfl (PRun.q (p_move rfl (by conv => lhs; whnf))) ?_
    refine RN.qq rfl rfl rfl rfl (PRun.q (p_move rfl (by conv => lhs; whnf))) ?_
    refine RN.qq rfl rfl rfl rfl (PRun.q (p_gtr rfl rfl rfl)) ?_
    refine RN.nil ?_
    refine hK12 _ _ ?_
    first | refine T.cond_dec rfl (fun h19 => ?_) (fun h19 => ?_) | refine T.cond rfl (fun h19 => ?_) (fun h19 => ?_)
    ·
      refine T.seq fun K13 hK13 => ?_
      refine T.region (l := [0]) rfl ?_
      refine RN.qq rfl rfl rfl rfl (PRun.q (p_assign rfl (by conv => lhs; whnf))) ?_
      refine RN.nil ?_
      refine hK13 _ _ ?_
      refine T.ret ?_
      refine Post.seq_r ?_
      refine bodyQ_ret [] (RetRun.tmp RetRun.nil) ⟨by first | rw [if_pos (by omega)]; rfl | (rw [if_neg (by omega), if_pos (by omega)]; rfl) | (rw [if_neg (by omega), if_neg (by omega)]; rfl), rfl⟩ (Ent.refl _)
    ·
      refine T.skip ?_
      refine hK11 _ _ ?_
      refine T.seq fun K14 hK14 => ?_
      refine T.region (l := [0]) rfl ?_
      refine RN.qq rfl rfl rfl rfl (PRun.q (p_assign rfl (by conv => lhs; whnf))) ?_
      refine RN.nil ?_
      refine hK14 _ _ ?_
      refine T.ret ?_
      refine bodyQ_ret [] (RetRun.tmp RetRun.nil) ⟨by first | rw [if_pos (by omega)]; rfl | (rw [if_neg (by omega), if_pos (by omega)]; rfl) | (rw [if_neg (by omega), if_neg (by omega)]; rfl), rfl⟩ (Ent.refl _)

theorem NanI_spec (a : Int) : Ctr Try.prog 51 [.int .i64 a] [] (fun v Ps => v = .bool false ∧ Ps = []) := by
  refine Ctr.of_body Try.func51 rfl (by kernel_rfl) Try.ntmps51 rfl rfl (fun Fr => ?_)
  refine T.seq fun K1 hK1 => ?_
  refine T.region (l := [0]) rfl ?_
  refine RN.qq rfl rfl rfl rfl (PRun.q (p_assign rfl (by conv => lhs; whnf))) ?_
  refine RN.nil ?_
  refine hK1 _ _ ?_
  refine T.seq fun K2 hK2 => ?_
  refine T.region (l := [0, 1, 2, 3]) rfl ?_
  refine RN.qq rfl rfl rfl rfl (PRun.q (p_move rfl (by conv => lhs; whnf))) ?_
  refine RN.qq rfl rfl rfl rfl (PRun.q (p_move rfl (by conv => lhs; whnf))) ?_
  refine RN.qq rfl rfl rfl rfl (PRun.q (p_neq rfl rfl rfl)) ?_
  refine RN.qq rfl rfl rfl rfl (PRun.q (p_assign rfl (by conv => lhs; whnf))) ?_
  refine RN.nil ?_
  refine hK2 _ _ ?_
  refine T.ret ?_
  refine bodyQ_ret [] (RetRun.tmp RetRun.nil) ⟨congrArg Value.bool (decide_eq_false (not_not_intro rfl)), rfl⟩ (Ent.refl _)

theorem CmpI_spec (a b : Int) : Ctr Try.prog 43 [.int .i64 a, .int .i64 b] [] (fun v Ps => v = .int .i64 (if a < b then -1 else if b < a then 1 else 0) ∧ Ps = []) := by
  refine Ctr.of_body Try.func43 rfl (by kernel_rfl) Try.ntmps43 rfl rfl (fun Fr => ?_)
  refine T.seq fun K1 hK1 => ?_
  refine T.region (l := [0]) rfl ?_
  refine RN.qq rfl rfl rfl rfl (PRun.q (p_assign rfl (by conv => lhs; whnf))) ?_
  refine RN.nil ?_
  refine hK1 _ _ ?_
  refine T.seq fun K2 hK2 => ?_
  refine T.region (l := [0, 1, 2]) rfl ?_
  refine RN.qq rfl rfl rfl rfl (PRun.q (p_move rfl (by conv => lhs; whnf))) ?_
  refine RN.C [] rfl rfl rfl rfl (c_call rfl rfl) (NanI_spec a) rfl ?_
  rintro _ _ ⟨rfl, rfl⟩
  refine RN.qq rfl rfl rfl rfl (PRun.q (p_assign rfl (by conv => lhs; whnf))) ?_
  refine RN.nil ?_
  refine hK2 _ _ ?_
  refine T.seq fun K3 hK3 => ?_
  refine T.region (l := [0, 1, 2]) rfl ?_
  refine RN.qq rfl rfl rfl rfl (PRun.q (p_move rfl (by conv => lhs; whnf))) ?_
  refine RN.C [] rfl rfl rfl rfl (c_call rfl rfl) (NanI_spec b) rfl ?_
  rintro _ _ ⟨rfl, rfl⟩
  refine RN.qq rfl rfl rfl rfl (PRun.q (p_assign rfl (by conv => lhs; whnf))) ?_
  refine RN.nil ?_
  refine hK3 _ _ ?_
  refine T.seq fun K4 hK4 => ?_
  refine T.seq fun K5 hK5 => ?_
  refine T.region (l := [0]) rfl ?_
  refine RN.qq rfl rfl rfl rfl (PRun.q (p_move rfl (by conv => lhs; whnf))) ?_
  refine RN.nil ?_
  refine hK5 _ _ ?_
  refine T.known 11 rfl (show _ = Value.bool false from rfl) ?_
  refine T.cond_f rfl ?_
  refine T.skip ?_
  refine hK4 _ _ ?_
  refine T.seq fun K6 hK6 => ?_
  refine T.seq fun K7 hK7 => ?_
  refine T.region (l := [0]) rfl ?_
  refine RN.qq rfl rfl rfl rfl (PRun.q (p_move rfl (by conv => lhs; whnf))) ?_
  refine RN.nil ?_
  refine hK7 _ _ ?_
  refine T.known 13 rfl (show _ = Value.bool false from rfl) ?_
  refine T.cond_f rfl ?_
  refine T.skip ?_
  refine hK6 _ _ ?_
  refine T.seq fun K8 hK8 => ?_
  refine T.seq fun K9 hK9 => ?_
  refine T.region (l := [0, 1, 2]) rfl ?_
  refine RN.qq rfl rfl rfl rfl (PRun.q (p_move rfl (by conv => lhs; whnf))) ?_
  refine RN.qq rfl rfl rfl rfl (PRun.q (p_move rfl (by conv => lhs; whnf))) ?_
  refine RN.qq rfl rfl rfl rfl (PRun.q (p_lss rfl rfl rfl)) ?_
  refine RN.nil ?_
  refine hK9 _ _ ?_
  first | refine T.cond_dec rfl (fun h16 => ?_) (fun h16 => ?_) | refine T.cond rfl (fun h16 => ?_) (fun h16 => ?_)
  ·
    refine T.seq fun K10 hK10 => ?_
    refine T.region (l := [0]) rfl ?_
    refine RN.qq rfl rfl rfl rfl (PRun.q (p_assign rfl (by conv => lhs; whnf))) ?_
    refine RN.nil ?_
    refine hK10 _ _ ?_
    refine T.ret ?_
    refine Post.seq_r ?_
    refine bodyQ_ret [] (RetRun.tmp RetRun.nil) ⟨by first | rw [if_pos (by omega)]; rfl | (rw [if_neg (by omega), if_pos (by omega)]; rfl) | (rw [if_neg (by omega), if_neg (by omega)]; rfl), rfl⟩ (Ent.refl _)
  ·
    refine T.skip ?_
    refine hK8 _ _ ?_
    refine T.seq fun K11 hK11 => ?_
    refine T.seq fun K12 hK12 => ?_
    refine T.region (l := [0, 1, 2]) rfl ?_
    refine RN.qq rfl rfl rfl rfl (PRun.q (p_move rfl (by conv => lhs; whnf))) ?_
    refine RN.qq rfl rfl rfl rfl (PRun.q (p_move rfl (by conv => lhs; whnf))) ?_
    refine RN.qq rfl rfl rfl rfl (PRun.q (p_gtr rfl rfl rfl)) ?_
    refine RN.nil ?_
    refine hK12 _ _ ?_
    first | refine T.cond_dec rfl (fun h19 => ?_) (fun h19 => ?_) | refine T.cond rfl (fun h19 => ?_) (fun h19 => ?_)
    ·
      refine T.seq fun K13 hK13 => ?_
      refine T.region (l := [0]) rfl ?_
      refine RN.qq rfl rfl rfl rfl (PRun.q (p_assign rfl (by conv => lhs; whnf))) ?_
      refine RN.nil ?_
      refine hK13 _ _ ?_
      refine T.ret ?_
      refine Post.seq_r ?_
      refine bodyQ_ret [] (RetRun.tmp RetRun.nil) ⟨by first | rw [if_pos (by omega)]; rfl | (rw [if_neg (by omega), if_pos (by omega)]; rfl) | (rw [if_neg (by omega), if_neg (by omega)]; rfl), rfl⟩ (Ent.refl _)
    ·
      refine T.skip ?_
      refine hK11 _ _ ?_
      refine T.seq fun K14 hK14 => ?_
      refine T.region (l := [0]) rfl ?_
      refine RN.qq rfl rfl rfl rfl (PRun.q (p_assign rfl (by conv => lhs; whnf))) ?_
      refine RN.nil ?_
      refine hK14 _ _ ?_
      refine T.ret ?_
      refine bodyQ_ret [] (RetRun.tmp RetRun.nil) ⟨by first | rw [if_pos (by omega)]; rfl | (rw [if_neg (by omega), if_pos (by omega)]; rfl) | (rw [if_neg (by omega), if_neg (by omega)]; rfl), rfl⟩ (Ent.refl _)

theorem Pages_spec (n : Int) : Ctr Try.prog 25 [.int .i64 n] [] (fun v Ps => v = intV (if n < 0 ∨ 65536 < n then 0 else pagesN n.toNat) ∧ Ps = []) := by
  refine Ctr.of_body Try.func25 rfl (by kernel_rfl) Try.ntmps25 rfl rfl (fun Fr => ?_)
  refine T.seq fun K1 hK1 => ?_
  refine T.region (l := [0]) rfl ?_
  refine RN.qq rfl rfl rfl rfl (PRun.q (p_assign rfl (by conv => lhs; whnf))) ?_
  refine RN.nil ?_
  refine hK1 _ _ ?_
  refine T.seq fun K2 hK2 => ?_
  refine T.seq fun K3 hK3 => ?_
  refine T.region (l := [0, 1, 2, 3, 4, 5]) rfl ?_
  refine RN.qq rfl rfl rfl rfl (PRun.q (p_move rfl (by conv => lhs; whnf))) ?_
  refine RN.qq rfl rfl rfl rfl (PRun.q (p_lss rfl rfl rfl)) ?_
  refine RN.qq rfl rfl rfl rfl (PRun.q (p_move rfl (by conv => lhs; whnf))) ?_
  first | refine RN.split_dec 5 rfl (fun h5 => ?_) (fun h5 => ?_) | refine RN.split 5 rfl (fun h5 => ?_) (fun h5 => ?_)
  ·
    refine RN.O rfl rfl rfl rfl ?_
    refine RN.O rfl rfl rfl rfl ?_
    refine RN.qq rfl rfl rfl rfl (PRun.q (p_pick_t rfl rfl (by conv => lhs; whnf))) ?_
    refine RN.nil ?_
    refine hK3 _ _ ?_
    refine T.cond_t rfl ?_
    refine T.seq fun K4 hK4 => ?_
    refine T.region (l := [0]) rfl ?_
    refine RN.qq rfl rfl rfl rfl (PRun.q (p_assign rfl (by conv => lhs; whnf))) ?_
    refine RN.nil ?_
    refine hK4 _ _ ?_
    refine T.ret ?_
    refine Post.seq_r ?_
    refine bodyQ_ret [] (RetRun.tmp RetRun.nil) ⟨by rw [if_pos (by omega)]; rfl, rfl⟩ (Ent.refl _)
  ·
    refine RN.qq rfl rfl rfl rfl (PRun.q (p_move rfl (by conv => lhs; whnf))) ?_
    refine RN.qq rfl rfl rfl rfl (PRun.q (p_gtr rfl rfl rfl)) ?_
    refine RN.qq rfl rfl rfl rfl (PRun.q (p_pick_f rfl rfl (by conv => lhs; whnf))) ?_
    refine RN.nil ?_
    refine hK3 _ _ ?_
    first | refine T.cond_dec rfl (fun h8 => ?_) (fun h8 => ?_) | refine T.cond rfl (fun h8 => ?_) (fun h8 => ?_)
    ·
      have hc : n < 0 ∨ 65536 < n := by omega
      refine T.seq fun K5 hK5 => ?_
      refine T.region (l := [0]) rfl ?_
      refine RN.qq rfl rfl rfl rfl (PRun.q (p_assign rfl (by conv => lhs; whnf))) ?_
      refine RN.nil ?_
      refine hK5 _ _ ?_
      refine T.ret ?_
      refine Post.seq_r ?_
      refine bodyQ_ret [] (RetRun.tmp RetRun.nil) ⟨by rw [if_pos (by omega)]; rfl, rfl⟩ (Ent.refl _)
    ·
      have hc : ¬ (n < 0 ∨ 65536 < n) := by omega
      obtain ⟨m, rfl⟩ := Int.eq_ofNat_of_zero_le (show 0 ≤ n by omega)
      refine T.skip ?_
      refine hK2 _ _ ?_
      refine T.seq fun K6 hK6 => ?_
      refine T.region (l := [0, 1, 2, 3, 4, 5]) rfl ?_
      refine RN.qq rfl rfl rfl rfl (PRun.q (p_move rfl (by conv => lhs; whnf))) ?_
      refine RN.qq rfl rfl rfl rfl (PRun.q (by first | exact (p_addN (b := 32) rfl rfl rfl (by omega)) | exact (p_add rfl rfl rfl (by omega)))) ?_
      refine RN.qq rfl rfl rfl rfl (PRun.q (by first | exact (p_subN (b := 1) rfl rfl rfl (by omega)) | exact (p_sub rfl rfl rfl (by omega)))) ?_
      refine RN.qq rfl rfl rfl rfl (PRun.q (by first | exact (p_quoN (b := 32) rfl rfl rfl (by omega)) | exact (p_quo rfl rfl rfl (by omega)))) ?_
      refine RN.qq rfl rfl rfl rfl (PRun.q (by first | exact (p_maxN (a := 1) rfl rfl rfl) | exact (p_max rfl rfl rfl))) ?_
      refine RN.qq rfl rfl rfl rfl (PRun.q (p_assign rfl (by conv => lhs; whnf))) ?_
      refine RN.nil ?_
      refine hK6 _ _ ?_
      refine T.ret ?_
      refine bodyQ_ret [] (RetRun.tmp RetRun.nil) ⟨?_, rfl⟩ (Ent.refl _)
      rw [if_neg hc]
      show Value.int .i64 _ = Value.int .i64 _
      congr 1
      unfold pagesN
      split <;> omega

theorem RPages_spec (n : Int) : Ctr Try.prog 26 [.int .i64 n] [] (fun v Ps => v = intV (if n < 0 ∨ 65536 < n then 0 else pagesN n.toNat) ∧ Ps = []) := by
  refine Ctr.of_body Try.func26 rfl (by kernel_rfl) Try.ntmps26 rfl rfl (fun Fr => ?_)
  refine T.seq fun K1 hK1 => ?_
  refine T.region (l := [0]) rfl ?_
  refine RN.qq rfl rfl rfl rfl (PRun.q (p_assign rfl (by conv => lhs; whnf))) ?_
  refine RN.nil ?_
  refine hK1 _ _ ?_
  refine T.seq fun K2 hK2 => ?_
  refine T.seq fun K3 hK3 => ?_
  refine T.region (l := [0, 1, 2, 3, 4, 5]) rfl ?_
  refine RN.qq rfl rfl rfl rfl (PRun.q (p_move rfl (by conv => lhs; whnf))) ?_
  refine RN.qq rfl rfl rfl rfl (PRun.q (p_lss rfl rfl rfl)) ?_
  refine RN.qq rfl rfl rfl rfl (PRun.q (p_move rfl (by conv => lhs; whnf))) ?_
  first | refine RN.split_dec 5 rfl (fun h5 => ?_) (fun h5 => ?_) | refine RN.split 5 rfl (fun h5 => ?_) (fun h5 => ?_)
  ·
    refine RN.O rfl rfl rfl rfl ?_
    refine RN.O rfl rfl rfl rfl ?_
    refine RN.qq rfl rfl rfl rfl (PRun.q (p_pick_t rfl rfl (by conv => lhs; whnf))) ?_
    refine RN.nil ?_
    refine hK3 _ _ ?_
    refine T.cond_t rfl ?_
    refine T.seq fun K4 hK4 => ?_
    refine T.region (l := [0]) rfl ?_
    refine RN.qq rfl rfl rfl rfl (PRun.q (p_assign rfl (by conv => lhs; whnf))) ?_
    refine RN.nil ?_
    refine hK4 _ _ ?_
    refine T.ret ?_
    refine Post.seq_r ?_
    refine bodyQ_ret [] (RetRun.tmp RetRun.nil) ⟨by rw [if_pos (by omega)]; rfl, rfl⟩ (Ent.refl _)
  ·
    refine RN.qq rfl rfl rfl rfl (PRun.q (p_move rfl (by conv => lhs; whnf))) ?_
    refine RN.qq rfl rfl rfl rfl (PRun.q (p_gtr rfl rfl rfl)) ?_
    refine RN.qq rfl rfl rfl rfl (PRun.q (p_pick_f rfl rfl (by conv => lhs; whnf))) ?_
    refine RN.nil ?_
    refine hK3 _ _ ?_
    first | refine T.cond_dec rfl (fun h8 => ?_) (fun h8 => ?_) | refine T.cond rfl (fun h8 => ?_) (fun h8 => ?_)
    ·
      have hc : n < 0 ∨ 65536 < n := by omega
      refine T.seq fun K5 hK5 => ?_
      refine T.region (l := [0]) rfl ?_
      refine RN.qq rfl rfl rfl rfl (PRun.q (p_assign rfl (by conv => lhs; whnf))) ?_
      refine RN.nil ?_
      refine hK5 _ _ ?_
      refine T.ret ?_
      refine Post.seq_r ?_
      refine bodyQ_ret [] (RetRun.tmp RetRun.nil) ⟨by rw [if_pos (by omega)]; rfl, rfl⟩ (Ent.refl _)
    ·
      have hc : ¬ (n < 0 ∨ 65536 < n) := by omega
      obtain ⟨m, rfl⟩ := Int.eq_ofNat_of_zero_le (show 0 ≤ n by omega)
      refine T.skip ?_
      refine hK2 _ _ ?_
      refine T.seq fun K6 hK6 => ?_
      refine T.seq fun K7 hK7 => ?_
      refine T.region (l := [0, 1]) rfl ?_
      refine RN.qq rfl rfl rfl rfl (PRun.q (p_move rfl (by conv => lhs; whnf))) ?_
      refine RN.qq rfl rfl rfl rfl (PRun.q (p_eql rfl rfl rfl)) ?_
      refine RN.nil ?_
      refine hK7 _ _ ?_
      first | refine T.cond_dec rfl (fun h10 => ?_) (fun h10 => ?_) | refine T.cond rfl (fun h10 => ?_) (fun h10 => ?_)
      ·
        refine T.seq fun K8 hK8 => ?_
        refine T.region (l := [0]) rfl ?_
        refine RN.qq rfl rfl rfl rfl (PRun.q (p_assign rfl (by conv => lhs; whnf))) ?_
        refine RN.nil ?_
        refine hK8 _ _ ?_
        refine T.ret ?_
        refine Post.seq_r ?_
        refine bodyQ_ret [] (RetRun.tmp RetRun.nil) ⟨?_, rfl⟩ (Ent.refl _)
        rw [if_neg hc]
        show Value.int .i64 _ = Value.int .i64 _
        congr 1
        unfold pagesN
        split <;> omega
      ·
        refine T.skip ?_
        refine hK6 _ _ ?_
        refine T.seq fun K9 hK9 => ?_
        refine T.region (l := [0, 1, 2, 3, 4]) rfl ?_
        refine RN.qq rfl rfl rfl rfl (PRun.q (p_move rfl (by conv => lhs; whnf))) ?_
        refine RN.qq rfl rfl rfl rfl (PRun.q (by first | exact (p_addN (b := 32) rfl rfl rfl (by omega)) | exact (p_add rfl rfl rfl (by omega)))) ?_
        refine RN.qq rfl rfl rfl rfl (PRun.q (by first | exact (p_subN (b := 1) rfl rfl rfl (by omega)) | exact (p_sub rfl rfl rfl (by omega)))) ?_
        refine RN.qq rfl rfl rfl rfl (PRun.q (by first | exact (p_quoN (b := 32) rfl rfl rfl (by omega)) | exact (p_quo rfl rfl rfl (by omega)))) ?_
        refine RN.qq rfl rfl rfl rfl (PRun.q (p_assign rfl (by conv => lhs; whnf))) ?_
        refine RN.nil ?_
        refine hK9 _ _ ?_
        refine T.ret ?_
        refine bodyQ_ret [] (RetRun.tmp RetRun.nil) ⟨?_, rfl⟩ (Ent.refl _)
        rw [if_neg hc]
        show Value.int .i64 _ = Value.int .i64 _
        congr 1
        unfold pagesN
        split <;> omega

theorem wrap_spec (n : Int) (s : Nat) (hs : 0 < s ∧ s ≤ 4294967296) : Ctr Try.prog 30 [.int .i64 n, intV s] [] (fun v Ps => v = intV (n % (s : Int)).toNat ∧ Ps = []) := by
  obtain ⟨w1, w2, w3, w4⟩ := wrap_law n s hs.1
  refine Ctr.of_body Try.func30 rfl (by kernel_rfl) Try.ntmps30 rfl rfl (fun Fr => ?_)
  refine T.seq fun K1 hK1 => ?_
  refine T.region (l := [0]) rfl ?_
  refine RN.qq rfl rfl rfl rfl (PRun.q (p_assign rfl (by conv => lhs; whnf))) ?_
  refine RN.nil ?_
  refine hK1 _ _ ?_
  refine T.seq fun K2 hK2 => ?_
  refine T.region (l := [0, 1, 2, 3]) rfl ?_
  refine RN.qq rfl rfl rfl rfl (PRun.q (p_move rfl (by conv => lhs; whnf))) ?_
  refine RN.qq rfl rfl rfl rfl (PRun.q (p_move rfl (by conv => lhs; whnf))) ?_
  refine RN.qq rfl rfl rfl rfl (PRun.q (p_rem_w rfl rfl rfl (by omega))) ?_
  refine RN.qq rfl rfl rfl rfl (PRun.q (p_assign rfl (by conv => lhs; whnf))) ?_
  refine RN.nil ?_
  refine hK2 _ _ ?_
  refine T.seq fun K3 hK3 => ?_
  refine T.seq fun K4 hK4 => ?_
  refine T.region (l := [0, 1]) rfl ?_
  refine RN.qq rfl rfl rfl rfl (PRun.q (p_move rfl (by conv => lhs; whnf))) ?_
  refine RN.qq rfl rfl rfl rfl (PRun.q (p_lss rfl rfl rfl)) ?_
  refine RN.nil ?_
  refine hK4 _ _ ?_
  first | refine T.cond_dec rfl (fun h10 => ?_) (fun h10 => ?_) | refine T.cond rfl (fun h10 => ?_) (fun h10 => ?_)
  ·
    refine T.seq fun K5 hK5 => ?_
    refine T.region (l := [0, 1, 2, 3]) rfl ?_
    refine RN.qq rfl rfl rfl rfl (PRun.q (p_move rfl (by conv => lhs; whnf))) ?_
    refine RN.qq rfl rfl rfl rfl (PRun.q (p_move rfl (by conv => lhs; whnf))) ?_
    refine RN.qq rfl rfl rfl rfl (PRun.q (by first | exact (p_addN rfl rfl rfl (by omega)) | exact (p_add rfl rfl rfl (by omega)))) ?_
    refine RN.qq rfl rfl rfl rfl (PRun.q (p_assign rfl (by conv => lhs; whnf))) ?_
    refine RN.nil ?_
    refine hK5 _ _ ?_
    refine T.ret ?_
    refine Post.seq_r ?_
    refine bodyQ_ret [] (RetRun.tmp RetRun.nil) ⟨congrArg (Value.int .i64) (w1 h10), rfl⟩ (Ent.refl _)
  ·
    refine T.skip ?_
    refine hK3 _ _ ?_
    refine T.seq fun K6 hK6 => ?_
    refine T.region (l := [0, 1]) rfl ?_
    refine RN.qq rfl rfl rfl rfl (PRun.q (p_move rfl (by conv => lhs; whnf))) ?_
    refine RN.qq rfl rfl rfl rfl (PRun.q (p_assign rfl (by conv => lhs; whnf))) ?_
    refine RN.nil ?_
    refine hK6 _ _ ?_
    refine T.ret ?_
    refine bodyQ_ret [] (RetRun.tmp RetRun.nil) ⟨congrArg (Value.int .i64) (w2 h10), rfl⟩ (Ent.refl _)

end Go.Proofs.Yticfabhcfdmbjaa
