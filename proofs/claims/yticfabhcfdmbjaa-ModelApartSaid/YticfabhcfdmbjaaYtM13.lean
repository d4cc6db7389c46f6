/-
  Walk of ModelApart.
-/
import Derived.Test.YticfabhcfdmbjaaYtM10
import Derived.Test.YticfabhcfdmbjaaSl11
namespace Go.Proofs.Yticfabhcfdmbjaa
open Go Go.Sl Go.Proofs
set_option maxRecDepth 20000
open Go.Mo
theorem ModelApart_bad (size : Int) (x y : Cmd) (hs : size < 1 ∨ 512 < size) : Ctr Try.prog 5 [.int .i64 size, .agg x.cells.toArray, .agg y.cells.toArray] [] (fun v Ps => v = .bool true ∧ Ps = []) := by
  refine Ctr.of_body Try.func5 rfl (by kernel_rfl) Try.ntmps5 rfl rfl (fun Fr => ?_)
  refine T.seq fun K1 hK1 => ?_
  refine T.region (l := [0, 1, 2]) rfl ?_
  refine RN.E rfl rfl rfl rfl (e_box rfl rfl rfl) ?_
  rintro _ _ ⟨b4, rfl, rfl⟩
  refine RN.E rfl rfl rfl rfl (e_box rfl rfl rfl) ?_
  rintro _ _ ⟨b5, rfl, rfl⟩
  refine RN.qq rfl rfl rfl rfl (PRun.q (p_assign rfl (by conv => lhs; whnf))) ?_
  refine RN.nil ?_
  refine hK1 _ _ ?_
  refine T.seq fun K2 hK2 => ?_
  refine T.seq fun K3 hK3 => ?_
  refine T.region (l := [0, 1]) rfl ?_
  refine RN.C [] rfl rfl rfl rfl (c_call rfl rfl) (awake_spec) rfl ?_
  rintro _ _ ⟨rfl, rfl⟩
  refine RN.qq rfl rfl rfl rfl (PRun.q (by first | exact (p_not_dec rfl rfl) | exact (p_not rfl rfl))) ?_
  refine RN.nil ?_
  refine hK3 _ _ ?_
  refine T.known 19 rfl (show _ = Value.bool false from rfl) ?_
  refine T.cond_f rfl ?_
  refine T.skip ?_
  refine hK2 _ _ ?_
  refine T.seq fun K4 hK4 => ?_
  refine T.region (l := [0, 1, 2, 3, 4, 5, 6]) rfl ?_
  refine RN.qq rfl rfl rfl rfl (PRun.q (p_move rfl (by conv => lhs; whnf))) ?_
  refine RN.C [] rfl rfl rfl rfl (c_call rfl rfl) (New_spec size) rfl ?_
  rintro v22 Ps22 hq22
  obtain ⟨rfl, rfl⟩ := NewQ_no hq22 (by omega)
  refine RN.qq rfl rfl rfl rfl (PRun.q (p_move rfl (by conv => lhs; whnf))) ?_
  refine RN.qq rfl rfl rfl rfl (PRun.q (p_extract rfl rfl rfl)) ?_
  refine RN.qq rfl rfl rfl rfl (PRun.q (p_extract rfl rfl rfl)) ?_
  refine RN.qq rfl rfl rfl rfl (PRun.q (p_assign rfl (by conv => lhs; whnf))) ?_
  refine RN.qq rfl rfl rfl rfl (PRun.q (p_assign rfl (by conv => lhs; whnf))) ?_
  refine RN.nil ?_
  refine hK4 _ _ ?_
  refine T.seq fun K5 hK5 => ?_
  refine T.region (l := [0, 1, 2, 3, 4, 5, 6]) rfl ?_
  refine RN.qq rfl rfl rfl rfl (PRun.q (p_move rfl (by conv => lhs; whnf))) ?_
  refine RN.C [] rfl rfl rfl rfl (c_call rfl rfl) (New_spec size) rfl ?_
  rintro v27 Ps27 hq27
  obtain ⟨rfl, rfl⟩ := NewQ_no hq27 (by omega)
  refine RN.qq rfl rfl rfl rfl (PRun.q (p_move rfl (by conv => lhs; whnf))) ?_
  refine RN.qq rfl rfl rfl rfl (PRun.q (p_extract rfl rfl rfl)) ?_
  refine RN.qq rfl rfl rfl rfl (PRun.q (p_extract rfl rfl rfl)) ?_
  refine RN.qq rfl rfl rfl rfl (PRun.q (p_assign rfl (by conv => lhs; whnf))) ?_
  refine RN.qq rfl rfl rfl rfl (PRun.q (p_assign rfl (by conv => lhs; whnf))) ?_
  refine RN.nil ?_
  refine hK5 _ _ ?_
  refine T.seq fun K6 hK6 => ?_
  refine T.seq fun K7 hK7 => ?_
  refine T.region (l := [0, 1, 2, 3, 4, 5, 6, 7, 8, 9, 10, 11, 12, 13, 14, 15, 16, 17, 18, 19, 20, 21, 22, 23, 24, 25, 26, 27, 28, 29, 30, 31, 32, 33, 34, 35, 36, 37, 38, 39, 40, 41, 42, 43, 44, 45, 46, 47]) rfl ?_
  refine RN.qq rfl rfl rfl rfl (PRun.q (p_move rfl (by conv => lhs; whnf))) ?_
  refine RN.qq rfl rfl rfl rfl (PRun.q (p_neq rfl rfl rfl)) ?_
  refine RN.qq rfl rfl rfl rfl (PRun.q (p_move rfl (by conv => lhs; whnf))) ?_
  refine RN.known 32 rfl (show _ = Value.bool true from rfl) ?_
  refine RN.O rfl rfl rfl rfl ?_
  refine RN.O rfl rfl rfl rfl ?_
  refine RN.qq rfl rfl rfl rfl (PRun.q (p_pick_t rfl rfl (by conv => lhs; whnf))) ?_
  refine RN.qq rfl rfl rfl rfl (PRun.q (p_move rfl (by conv => lhs; whnf))) ?_
  refine RN.O rfl rfl rfl rfl ?_
  refine RN.O rfl rfl rfl rfl ?_
  refine RN.O rfl rfl rfl rfl ?_
  refine RN.qq rfl rfl rfl rfl (PRun.q (p_pick_t rfl rfl (by conv => lhs; whnf))) ?_
  refine RN.qq rfl rfl rfl rfl (PRun.q (p_move rfl (by conv => lhs; whnf))) ?_
  refine RN.O rfl rfl rfl rfl ?_
  refine RN.O rfl rfl rfl rfl ?_
  refine RN.O rfl rfl rfl rfl ?_
  refine RN.qq rfl rfl rfl rfl (PRun.q (p_pick_t rfl rfl (by conv => lhs; whnf))) ?_
  refine RN.qq rfl rfl rfl rfl (PRun.q (p_move rfl (by conv => lhs; whnf))) ?_
  refine RN.O rfl rfl rfl rfl ?_
  refine RN.O rfl rfl rfl rfl ?_
  refine RN.O rfl rfl rfl rfl ?_
  refine RN.O rfl rfl rfl rfl ?_
  refine RN.qq rfl rfl rfl rfl (PRun.q (p_pick_t rfl rfl (by conv => lhs; whnf))) ?_
  refine RN.qq rfl rfl rfl rfl (PRun.q (p_move rfl (by conv => lhs; whnf))) ?_
  refine RN.O rfl rfl rfl rfl ?_
  refine RN.O rfl rfl rfl rfl ?_
  refine RN.O rfl rfl rfl rfl ?_
  refine RN.O rfl rfl rfl rfl ?_
  refine RN.qq rfl rfl rfl rfl (PRun.q (p_pick_t rfl rfl (by conv => lhs; whnf))) ?_
  refine RN.qq rfl rfl rfl rfl (PRun.q (p_move rfl (by conv => lhs; whnf))) ?_
  refine RN.O rfl rfl rfl rfl ?_
  refine RN.O rfl rfl rfl rfl ?_
  refine RN.O rfl rfl rfl rfl ?_
  refine RN.O rfl rfl rfl rfl ?_
  refine RN.O rfl rfl rfl rfl ?_
  refine RN.O rfl rfl rfl rfl ?_
  refine RN.O rfl rfl rfl rfl ?_
  refine RN.O rfl rfl rfl rfl ?_
  refine RN.O rfl rfl rfl rfl ?_
  refine RN.O rfl rfl rfl rfl ?_
  refine RN.O rfl rfl rfl rfl ?_
  refine RN.O rfl rfl rfl rfl ?_
  refine RN.O rfl rfl rfl rfl ?_
  refine RN.O rfl rfl rfl rfl ?_
  refine RN.O rfl rfl rfl rfl ?_
  refine RN.O rfl rfl rfl rfl ?_
  refine RN.O rfl rfl rfl rfl ?_
  refine RN.O rfl rfl rfl rfl ?_
  refine RN.qq rfl rfl rfl rfl (PRun.q (p_pick_t rfl rfl (by conv => lhs; whnf))) ?_
  refine RN.nil ?_
  refine hK7 _ _ ?_
  refine T.cond_t rfl ?_
  refine T.seq fun K8 hK8 => ?_
  refine T.region (l := [0, 1, 2, 3]) rfl ?_
  refine RN.qq rfl rfl rfl rfl (PRun.q (p_move rfl (by conv => lhs; whnf))) ?_
  refine RN.qq rfl rfl rfl rfl (PRun.q (p_move rfl (by conv => lhs; whnf))) ?_
  refine RN.qq rfl rfl rfl rfl (PRun.q (p_eql rfl rfl rfl)) ?_
  refine RN.qq rfl rfl rfl rfl (PRun.q (p_assign rfl (by conv => lhs; whnf))) ?_
  refine RN.nil ?_
  refine hK8 _ _ ?_
  refine T.ret ?_
  refine Post.seq_r ?_
  refine bodyQ_ret [] (RetRun.tmp RetRun.nil) ⟨rfl, rfl⟩ (Ent.pull_drop (is := [2]) rfl)

end Go.Proofs.Yticfabhcfdmbjaa
