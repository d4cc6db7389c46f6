/-
  Walk of ModelPlays.
-/
import Derived.Test.YticfabhcfdmbjaaYtM10
import Derived.Test.YticfabhcfdmbjaaSl11
namespace Go.Proofs.Yticfabhcfdmbjaa
open Go Go.Sl Go.Proofs
set_option maxRecDepth 20000
open Go.Mo
theorem ModelPlays_bad (w0 : World) (size at_ : Int) (q : Option Addr) (scap : Nat) (cs : List Cmd) (hs : size < 1 ∨ 512 < size) : Ctr Try.prog 4 [.int .i64 size, .slice q cs.length scap, .int .i64 at_] [old w0] (fun v Ps => v = .bool true ∧ Ps = [old w0]) := by
  refine Ctr.of_body Try.func4 rfl (by kernel_rfl) Try.ntmps4 rfl rfl (fun Fr => ?_)
  refine T.seq fun K1 hK1 => ?_
  refine T.region (l := [0]) rfl ?_
  refine RN.qq rfl rfl rfl rfl (PRun.q (p_assign rfl (by conv => lhs; whnf))) ?_
  refine RN.nil ?_
  refine hK1 _ _ ?_
  refine T.seq fun K2 hK2 => ?_
  refine T.seq fun K3 hK3 => ?_
  refine T.region (l := [0, 1]) rfl ?_
  refine RN.C [] rfl rfl rfl rfl (c_call rfl rfl) (awake_spec) rfl ?_
  rintro _ _ ⟨rfl, rfl⟩
  refine RN.qq rfl rfl rfl rfl (PRun.q (by first | exact (p_not_dec rfl rfl) | exact (p_not rfl rfl))) ?_
  refine RN.nil ?_
  refine hK3 _ _ ?_
  refine T.known 29 rfl (show _ = Value.bool false from rfl) ?_
  refine T.cond_f rfl ?_
  refine T.skip ?_
  refine hK2 _ _ ?_
  refine T.seq fun K4 hK4 => ?_
  refine T.region (l := [0, 1, 2, 3, 4, 5, 6]) rfl ?_
  refine RN.qq rfl rfl rfl rfl (PRun.q (p_move rfl (by conv => lhs; whnf))) ?_
  refine RN.C [] rfl rfl rfl rfl (c_call rfl rfl) (New_spec size) rfl ?_
  rintro v32 Ps32 hq32
  obtain ⟨rfl, rfl⟩ := NewQ_no hq32 (by omega)
  refine RN.qq rfl rfl rfl rfl (PRun.q (p_move rfl (by conv => lhs; whnf))) ?_
  refine RN.qq rfl rfl rfl rfl (PRun.q (p_extract rfl rfl rfl)) ?_
  refine RN.qq rfl rfl rfl rfl (PRun.q (p_extract rfl rfl rfl)) ?_
  refine RN.qq rfl rfl rfl rfl (PRun.q (p_assign rfl (by conv => lhs; whnf))) ?_
  refine RN.qq rfl rfl rfl rfl (PRun.q (p_assign rfl (by conv => lhs; whnf))) ?_
  refine RN.nil ?_
  refine hK4 _ _ ?_
  refine T.seq fun K5 hK5 => ?_
  refine T.seq fun K6 hK6 => ?_
  refine T.region (l := [0, 1, 2, 3, 4, 5]) rfl ?_
  refine RN.qq rfl rfl rfl rfl (PRun.q (p_move rfl (by conv => lhs; whnf))) ?_
  refine RN.qq rfl rfl rfl rfl (PRun.q (p_lss rfl rfl rfl)) ?_
  refine RN.qq rfl rfl rfl rfl (PRun.q (p_move rfl (by conv => lhs; whnf))) ?_
  first | refine RN.split_dec 37 rfl (fun h37 => ?_) (fun h37 => ?_) | refine RN.split 37 rfl (fun h37 => ?_) (fun h37 => ?_)
  ·
    refine RN.O rfl rfl rfl rfl ?_
    refine RN.O rfl rfl rfl rfl ?_
    refine RN.qq rfl rfl rfl rfl (PRun.q (p_pick_t rfl rfl (by conv => lhs; whnf))) ?_
    refine RN.nil ?_
    refine hK6 _ _ ?_
    refine T.cond_t rfl ?_
    refine T.seq fun K7 hK7 => ?_
    refine T.region (l := [0, 1, 2, 3, 4, 5, 6]) rfl ?_
    refine RN.qq rfl rfl rfl rfl (PRun.q (p_move rfl (by conv => lhs; whnf))) ?_
    refine RN.qq rfl rfl rfl rfl (PRun.q (p_eql rfl rfl rfl)) ?_
    refine RN.qq rfl rfl rfl rfl (PRun.q (p_move rfl (by conv => lhs; whnf))) ?_
    refine RN.known 43 rfl (show _ = Value.bool true from rfl) ?_
    refine RN.qq rfl rfl rfl rfl (PRun.q (p_move rfl (by conv => lhs; whnf))) ?_
    refine RN.qq rfl rfl rfl rfl (PRun.q (p_ptreql_nil rfl rfl rfl Try.underlying23)) ?_
    refine RN.qq rfl rfl rfl rfl (PRun.q (p_pick_t rfl rfl (by conv => lhs; whnf))) ?_
    refine RN.qq rfl rfl rfl rfl (PRun.q (p_assign rfl (by conv => lhs; whnf))) ?_
    refine RN.nil ?_
    refine hK7 _ _ ?_
    refine T.ret ?_
    refine Post.seq_r ?_
    refine bodyQ_ret [old w0] (RetRun.tmp RetRun.nil) ⟨rfl, rfl⟩ (Ent.refl _)
  ·
    refine RN.qq rfl rfl rfl rfl (PRun.q (p_move rfl (by conv => lhs; whnf))) ?_
    refine RN.qq rfl rfl rfl rfl (PRun.q (p_gtr rfl rfl rfl)) ?_
    refine RN.qq rfl rfl rfl rfl (PRun.q (p_pick_f rfl rfl (by conv => lhs; whnf))) ?_
    refine RN.nil ?_
    refine hK6 _ _ ?_
    first | refine T.cond_dec rfl (fun h40 => ?_) (fun h40 => ?_) | refine T.cond rfl (fun h40 => ?_) (fun h40 => ?_)
    ·
      refine T.seq fun K8 hK8 => ?_
      refine T.region (l := [0, 1, 2, 3, 4, 5, 6]) rfl ?_
      refine RN.qq rfl rfl rfl rfl (PRun.q (p_move rfl (by conv => lhs; whnf))) ?_
      refine RN.qq rfl rfl rfl rfl (PRun.q (p_eql rfl rfl rfl)) ?_
      refine RN.qq rfl rfl rfl rfl (PRun.q (p_move rfl (by conv => lhs; whnf))) ?_
      refine RN.known 43 rfl (show _ = Value.bool true from rfl) ?_
      refine RN.qq rfl rfl rfl rfl (PRun.q (p_move rfl (by conv => lhs; whnf))) ?_
      refine RN.qq rfl rfl rfl rfl (PRun.q (p_ptreql_nil rfl rfl rfl Try.underlying23)) ?_
      refine RN.qq rfl rfl rfl rfl (PRun.q (p_pick_t rfl rfl (by conv => lhs; whnf))) ?_
      refine RN.qq rfl rfl rfl rfl (PRun.q (p_assign rfl (by conv => lhs; whnf))) ?_
      refine RN.nil ?_
      refine hK8 _ _ ?_
      refine T.ret ?_
      refine Post.seq_r ?_
      refine bodyQ_ret [old w0] (RetRun.tmp RetRun.nil) ⟨rfl, rfl⟩ (Ent.refl _)
    ·
      exfalso; omega --done

theorem ModelPlays_skip (w0 : World) (size at_ : Int) (q : Option Addr) (scap : Nat) (cs : List Cmd) (hs : 1 ≤ size ∧ size ≤ 512) (hb : 40 < cs.length ∨ 64 < size) : Ctr Try.prog 4 [.int .i64 size, .slice q cs.length scap, .int .i64 at_] [old w0] (fun v Ps => v = .bool true ∧ Ps = [old w0]) := by
  refine Ctr.of_body Try.func4 rfl (by kernel_rfl) Try.ntmps4 rfl rfl (fun Fr => ?_)
  refine T.seq fun K1 hK1 => ?_
  refine T.region (l := [0]) rfl ?_
  refine RN.qq rfl rfl rfl rfl (PRun.q (p_assign rfl (by conv => lhs; whnf))) ?_
  refine RN.nil ?_
  refine hK1 _ _ ?_
  refine T.seq fun K2 hK2 => ?_
  refine T.seq fun K3 hK3 => ?_
  refine T.region (l := [0, 1]) rfl ?_
  refine RN.C [] rfl rfl rfl rfl (c_call rfl rfl) (awake_spec) rfl ?_
  rintro _ _ ⟨rfl, rfl⟩
  refine RN.qq rfl rfl rfl rfl (PRun.q (by first | exact (p_not_dec rfl rfl) | exact (p_not rfl rfl))) ?_
  refine RN.nil ?_
  refine hK3 _ _ ?_
  refine T.known 29 rfl (show _ = Value.bool false from rfl) ?_
  refine T.cond_f rfl ?_
  refine T.skip ?_
  refine hK2 _ _ ?_
  refine T.seq fun K4 hK4 => ?_
  refine T.region (l := [0, 1, 2, 3, 4, 5, 6]) rfl ?_
  refine RN.qq rfl rfl rfl rfl (PRun.q (p_move rfl (by conv => lhs; whnf))) ?_
  refine RN.C [] rfl rfl rfl rfl (c_call rfl rfl) (New_spec size) rfl ?_
  rintro v32 Ps32 hq32
  obtain ⟨a1, p1, cap1, ds1, rest1, rfl, hn1, hok1, hb1, hc1, rfl⟩ := NewQ_yes hq32 (by omega)
  refine RN.qq rfl rfl rfl rfl (PRun.q (p_move rfl (by conv => lhs; whnf))) ?_
  refine RN.qq rfl rfl rfl rfl (PRun.q (p_extract rfl rfl rfl)) ?_
  refine RN.qq rfl rfl rfl rfl (PRun.q (p_extract rfl rfl rfl)) ?_
  refine RN.qq rfl rfl rfl rfl (PRun.q (p_assign rfl (by conv => lhs; whnf))) ?_
  refine RN.qq rfl rfl rfl rfl (PRun.q (p_assign rfl (by conv => lhs; whnf))) ?_
  refine RN.nil ?_
  refine hK4 _ _ ?_
  refine T.seq fun K5 hK5 => ?_
  refine T.seq fun K6 hK6 => ?_
  refine T.region (l := [0, 1, 2, 3, 4, 5]) rfl ?_
  refine RN.qq rfl rfl rfl rfl (PRun.q (p_move rfl (by conv => lhs; whnf))) ?_
  refine RN.qq rfl rfl rfl rfl (PRun.q (p_lss rfl rfl rfl)) ?_
  refine RN.qq rfl rfl rfl rfl (PRun.q (p_move rfl (by conv => lhs; whnf))) ?_
  refine RN.known 37 rfl (show _ = Value.bool false from congrArg Value.bool (decide_eq_false (by omega))) ?_
  refine RN.qq rfl rfl rfl rfl (PRun.q (p_move rfl (by conv => lhs; whnf))) ?_
  refine RN.qq rfl rfl rfl rfl (PRun.q (p_gtr rfl rfl rfl)) ?_
  refine RN.qq rfl rfl rfl rfl (PRun.q (p_pick_f rfl rfl (by conv => lhs; whnf))) ?_
  refine RN.nil ?_
  refine hK6 _ _ ?_
  refine T.known 40 rfl (show _ = Value.bool false from congrArg Value.bool (decide_eq_false (by omega))) ?_
  refine T.cond_f rfl ?_
  refine T.skip ?_
  refine hK5 _ _ ?_
  refine T.seq fun K7 hK7 => ?_
  refine T.seq fun K8 hK8 => ?_
  refine T.region (l := [0, 1, 2, 3, 4, 5, 6, 7, 8, 9, 10, 11, 12, 13, 14]) rfl ?_
  refine RN.qq rfl rfl rfl rfl (PRun.q (p_move rfl (by conv => lhs; whnf))) ?_
  refine RN.qq rfl rfl rfl rfl (PRun.q (p_neq rfl rfl rfl)) ?_
  refine RN.qq rfl rfl rfl rfl (PRun.q (p_move rfl (by conv => lhs; whnf))) ?_
  refine RN.known 49 rfl (show _ = Value.bool false from rfl) ?_
  refine RN.qq rfl rfl rfl rfl (PRun.q (p_move rfl (by conv => lhs; whnf))) ?_
  refine RN.qq rfl rfl rfl rfl (PRun.q (p_ptreql_nil rfl rfl rfl Try.underlying23)) ?_
  refine RN.qq rfl rfl rfl rfl (PRun.q (p_pick_f rfl rfl (by conv => lhs; whnf))) ?_
  refine RN.qq rfl rfl rfl rfl (PRun.q (p_move rfl (by conv => lhs; whnf))) ?_
  refine RN.known 53 rfl (show _ = Value.bool false from rfl) ?_
  refine RN.qq rfl rfl rfl rfl (PRun.q (p_move rfl (by conv => lhs; whnf))) ?_
  refine RN.qq rfl rfl rfl rfl (PRun.q (p_len rfl Try.underlying31 rfl)) ?_
  refine RN.qq rfl rfl rfl rfl (PRun.q (p_gtr rfl rfl rfl)) ?_
  refine RN.qq rfl rfl rfl rfl (PRun.q (p_pick_f rfl rfl (by conv => lhs; whnf))) ?_
  refine RN.qq rfl rfl rfl rfl (PRun.q (p_move rfl (by conv => lhs; whnf))) ?_
  first | refine RN.split_dec 58 rfl (fun h58 => ?_) (fun h58 => ?_) | refine RN.split 58 rfl (fun h58 => ?_) (fun h58 => ?_)
  ·
    refine RN.O rfl rfl rfl rfl ?_
    refine RN.O rfl rfl rfl rfl ?_
    refine RN.qq rfl rfl rfl rfl (PRun.q (p_pick_t rfl rfl (by conv => lhs; whnf))) ?_
    refine RN.nil ?_
    refine hK8 _ _ ?_
    refine T.cond_t rfl ?_
    refine T.seq fun K9 hK9 => ?_
    refine T.region (l := [0, 1, 2]) rfl ?_
    refine RN.qq rfl rfl rfl rfl (PRun.q (p_move rfl (by conv => lhs; whnf))) ?_
    refine RN.qq rfl rfl rfl rfl (PRun.q (p_eql rfl rfl rfl)) ?_
    refine RN.qq rfl rfl rfl rfl (PRun.q (p_assign rfl (by conv => lhs; whnf))) ?_
    refine RN.nil ?_
    refine hK9 _ _ ?_
    refine T.ret ?_
    refine Post.seq_r ?_
    refine bodyQ_ret [old w0] (RetRun.tmp RetRun.nil) ⟨rfl, rfl⟩ (Ent.pull_drop (is := [3, 3]) rfl)
  ·
    refine RN.qq rfl rfl rfl rfl (PRun.q (p_move rfl (by conv => lhs; whnf))) ?_
    refine RN.qq rfl rfl rfl rfl (PRun.q (p_gtr rfl rfl rfl)) ?_
    refine RN.qq rfl rfl rfl rfl (PRun.q (p_pick_f rfl rfl (by conv => lhs; whnf))) ?_
    refine RN.nil ?_
    refine hK8 _ _ ?_
    first | refine T.cond_dec rfl (fun h61 => ?_) (fun h61 => ?_) | refine T.cond rfl (fun h61 => ?_) (fun h61 => ?_)
    ·
      refine T.seq fun K10 hK10 => ?_
      refine T.region (l := [0, 1, 2]) rfl ?_
      refine RN.qq rfl rfl rfl rfl (PRun.q (p_move rfl (by conv => lhs; whnf))) ?_
      refine RN.qq rfl rfl rfl rfl (PRun.q (p_eql rfl rfl rfl)) ?_
      refine RN.qq rfl rfl rfl rfl (PRun.q (p_assign rfl (by conv => lhs; whnf))) ?_
      refine RN.nil ?_
      refine hK10 _ _ ?_
      refine T.ret ?_
      refine Post.seq_r ?_
      refine bodyQ_ret [old w0] (RetRun.tmp RetRun.nil) ⟨rfl, rfl⟩ (Ent.pull_drop (is := [3, 3]) rfl)
    ·
      exfalso; omega --done

end Go.Proofs.Yticfabhcfdmbjaa
