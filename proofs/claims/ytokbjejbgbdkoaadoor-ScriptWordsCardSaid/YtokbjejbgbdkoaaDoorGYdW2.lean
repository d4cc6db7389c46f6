/-
  ScriptWords: walked.
-/
import Derived.Test.YtokbjejbgbdkoaaDoorGYdW1
set_option linter.unusedVariables false
set_option linter.unusedSimpArgs false
namespace Go.Proofs.YtokbjejbgbdkoaaDoor
open Go Go.Sl Go.Proofs
set_option maxRecDepth 20000
open Go.Mo
theorem ScriptWords_walk (A1 A2 : Assn) (haw : Ctr Tryd.prog 7 [] [A1, A2] (fun v Ps => v = .bool true ∧ Ps = [A1, A2])) (l : List UInt8) (hl : l.length ≤ 9223372036854775807) : Ctr Tryd.prog 3 [strV l] [A1, A2] (fun v Ps => v = .bool true ∧ Ps = [A1, A2]) := by
  refine Ctr.of_body Tryd.func3 rfl (by kernel_rfl) Tryd.ntmps3 rfl rfl (fun Fr => ?_)
  refine T.seq fun K1 hK1 => ?_
  refine T.region (l := [0]) rfl ?_
  refine RN.qq rfl rfl rfl rfl (PRun.q (p_assign rfl (by conv => lhs; whnf))) ?_
  refine RN.nil ?_
  refine hK1 _ _ ?_
  refine T.seq fun K2 hK2 => ?_
  refine T.region (l := [0, 1, 2, 3, 4, 5, 6]) rfl ?_
  refine RN.qq rfl rfl rfl rfl (PRun.q (p_move rfl (by conv => lhs; whnf))) ?_
  refine RN.C [] rfl rfl rfl rfl (c_call rfl rfl) (Word_spec l hl) rfl ?_
  rintro _ _ ⟨a, b, rfl, hw, rfl⟩
  refine RN.qq rfl rfl rfl rfl (PRun.q (p_move rfl (by conv => lhs; whnf))) ?_
  refine RN.qq rfl rfl rfl rfl (PRun.q (p_extract rfl rfl rfl)) ?_
  refine RN.qq rfl rfl rfl rfl (PRun.q (p_extract rfl rfl rfl)) ?_
  refine RN.qq rfl rfl rfl rfl (PRun.q (p_assign rfl (by conv => lhs; whnf))) ?_
  refine RN.qq rfl rfl rfl rfl (PRun.q (p_assign rfl (by conv => lhs; whnf))) ?_
  refine RN.nil ?_
  refine hK2 _ _ ?_
  refine T.seq fun K3 hK3 => ?_
  refine T.region (l := [0, 1, 2, 3, 4, 5, 6]) rfl ?_
  refine RN.qq rfl rfl rfl rfl (PRun.q (p_move rfl (by conv => lhs; whnf))) ?_
  refine RN.C [] rfl rfl rfl rfl (c_call rfl rfl) (RWord_spec l hl) rfl ?_
  rintro _ _ ⟨c, d, rfl, hw2, rfl⟩
  obtain ⟨rfl, rfl⟩ := hw.unique hw2
  refine RN.qq rfl rfl rfl rfl (PRun.q (p_move rfl (by conv => lhs; whnf))) ?_
  refine RN.qq rfl rfl rfl rfl (PRun.q (p_extract rfl rfl rfl)) ?_
  refine RN.qq rfl rfl rfl rfl (PRun.q (p_extract rfl rfl rfl)) ?_
  refine RN.qq rfl rfl rfl rfl (PRun.q (p_assign rfl (by conv => lhs; whnf))) ?_
  refine RN.qq rfl rfl rfl rfl (PRun.q (p_assign rfl (by conv => lhs; whnf))) ?_
  refine RN.nil ?_
  refine hK3 _ _ ?_
  refine T.seq fun K4 hK4 => ?_
  refine T.region (l := [0, 1, 2, 3, 4, 5, 6, 7, 8, 9, 10, 11]) rfl ?_
  refine RN.C [0, 0] rfl rfl rfl rfl (c_call rfl rfl) (haw) rfl ?_
  rintro _ _ ⟨rfl, rfl⟩
  refine RN.qq rfl rfl rfl rfl (PRun.q (p_move rfl (by conv => lhs; whnf))) ?_
  refine RN.known 18 rfl (show _ = Value.bool true from rfl) ?_
  refine RN.qq rfl rfl rfl rfl (PRun.q (p_move rfl (by conv => lhs; whnf))) ?_
  refine RN.qq rfl rfl rfl rfl (PRun.q (p_move rfl (by conv => lhs; whnf))) ?_
  refine RN.qq rfl rfl rfl rfl (PRun.q (p_seql rfl rfl rfl)) ?_
  refine RN.qq rfl rfl rfl rfl (PRun.q (p_pick_t rfl rfl (by conv => lhs; whnf))) ?_
  refine RN.qq rfl rfl rfl rfl (PRun.q (p_move rfl (by conv => lhs; whnf))) ?_
  refine RN.known 23 rfl (show _ = Value.bool true from congrArg Value.bool (decide_eq_true rfl)) ?_
  refine RN.qq rfl rfl rfl rfl (PRun.q (p_move rfl (by conv => lhs; whnf))) ?_
  refine RN.qq rfl rfl rfl rfl (PRun.q (p_move rfl (by conv => lhs; whnf))) ?_
  refine RN.qq rfl rfl rfl rfl (PRun.q (p_seql rfl rfl rfl)) ?_
  refine RN.qq rfl rfl rfl rfl (PRun.q (p_pick_t rfl rfl (by conv => lhs; whnf))) ?_
  refine RN.qq rfl rfl rfl rfl (PRun.q (p_assign rfl (by conv => lhs; whnf))) ?_
  refine RN.nil ?_
  refine hK4 _ _ ?_
  refine T.ret ?_
  refine bodyQ_ret [A1, A2] (RetRun.tmp RetRun.nil) ⟨congrArg Value.bool (decide_eq_true rfl), rfl⟩ (Ent.refl _)

end Go.Proofs.YtokbjejbgbdkoaaDoor
