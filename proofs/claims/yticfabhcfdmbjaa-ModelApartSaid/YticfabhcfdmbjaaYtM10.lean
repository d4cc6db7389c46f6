/-
  Walk of ModelKnown.
-/
import Derived.Test.YticfabhcfdmbjaaYtM9
namespace Go.Proofs.Yticfabhcfdmbjaa
open Go Go.Sl Go.Proofs
set_option maxRecDepth 20000
open Go.Mo
theorem ModelKnown_spec  : Ctr Try.prog 3 [] [] (fun v Ps => v = .bool true ∧ Ps = []) := by
  refine Ctr.of_body Try.func3 rfl (by kernel_rfl) Try.ntmps3 rfl rfl (fun Fr => ?_)
  refine T.seq fun K1 hK1 => ?_
  refine T.region (l := [0]) rfl ?_
  refine RN.qq rfl rfl rfl rfl (PRun.q (p_assign rfl (by conv => lhs; whnf))) ?_
  refine RN.nil ?_
  refine hK1 _ _ ?_
  refine T.seq fun K2 hK2 => ?_
  refine T.seq fun K3 hK3 => ?_
  refine T.region (l := [0, 1]) rfl ?_
  refine RN.C [] rfl rfl rfl rfl (c_call rfl rfl) (awake_spec) rfl ?_
  rintro _ _ ⟨rfl, rfl⟩
  refine RN.qq rfl rfl rfl rfl (PRun.q (by first | exact (p_not_dec rfl rfl) | exact (p_not rfl rfl))) ?_
  refine RN.nil ?_
  refine hK3 _ _ ?_
  refine T.known 10 rfl (show _ = Value.bool false from rfl) ?_
  refine T.cond_f rfl ?_
  refine T.skip ?_
  refine hK2 _ _ ?_
  refine T.seq fun K4 hK4 => ?_
  refine T.region (l := [0, 1, 2, 3, 4, 5]) rfl ?_
  refine RN.C [] rfl rfl rfl rfl (c_call rfl rfl) (New_spec 0) rfl ?_
  rintro v12 Ps12 hq12
  obtain ⟨rfl, rfl⟩ := NewQ_no hq12 (by omega)
  refine RN.qq rfl rfl rfl rfl (PRun.q (p_move rfl (by conv => lhs; whnf))) ?_
  refine RN.qq rfl rfl rfl rfl (PRun.q (p_extract rfl rfl rfl)) ?_
  refine RN.qq rfl rfl rfl rfl (PRun.q (p_extract rfl rfl rfl)) ?_
  refine RN.qq rfl rfl rfl rfl (PRun.q (p_assign rfl (by conv => lhs; whnf))) ?_
  refine RN.qq rfl rfl rfl rfl (PRun.q (p_assign rfl (by conv => lhs; whnf))) ?_
  refine RN.nil ?_
  refine hK4 _ _ ?_
  refine T.seq fun K5 hK5 => ?_
  refine T.region (l := [0, 1, 2, 3, 4, 5]) rfl ?_
  refine RN.C [] rfl rfl rfl rfl (c_call rfl rfl) (New_spec 513) rfl ?_
  rintro v16 Ps16 hq16
  obtain ⟨rfl, rfl⟩ := NewQ_no hq16 (by omega)
  refine RN.qq rfl rfl rfl rfl (PRun.q (p_move rfl (by conv => lhs; whnf))) ?_
  refine RN.qq rfl rfl rfl rfl (PRun.q (p_extract rfl rfl rfl)) ?_
  refine RN.qq rfl rfl rfl rfl (PRun.q (p_extract rfl rfl rfl)) ?_
  refine RN.qq rfl rfl rfl rfl (PRun.q (p_assign rfl (by conv => lhs; whnf))) ?_
  refine RN.qq rfl rfl rfl rfl (PRun.q (p_assign rfl (by conv => lhs; whnf))) ?_
  refine RN.nil ?_
  refine hK5 _ _ ?_
  refine T.seq fun K6 hK6 => ?_
  refine T.region (l := [0, 1, 2, 3, 4, 5]) rfl ?_
  refine RN.C [] rfl rfl rfl rfl (c_call rfl rfl) (New_spec 2) rfl ?_
  rintro v10 Ps10 hq10
  obtain ⟨a1, p1, cap1, ds1, rest1, rfl, hn1, hok1, hb1, hc1, rfl⟩ := NewQ_yes hq10 (by omega)
  have hl1 : ds1.length = 2 := by omega
  refine RN.qq rfl rfl rfl rfl (PRun.q (p_move rfl (by conv => lhs; whnf))) ?_
  refine RN.qq rfl rfl rfl rfl (PRun.q (p_extract rfl rfl rfl)) ?_
  refine RN.qq rfl rfl rfl rfl (PRun.q (p_extract rfl rfl rfl)) ?_
  refine RN.qq rfl rfl rfl rfl (PRun.q (p_assign rfl (by conv => lhs; whnf))) ?_
  refine RN.qq rfl rfl rfl rfl (PRun.q (p_assign rfl (by conv => lhs; whnf))) ?_
  refine RN.nil ?_
  refine hK6 _ _ ?_
  refine T.seq fun K7 hK7 => ?_
  refine T.region (l := [0, 1, 2, 3, 4, 5, 6]) rfl ?_
  refine RN.qq rfl rfl rfl rfl (PRun.q (p_move rfl (by conv => lhs; whnf))) ?_
  refine RN.C [0, 0, 0] rfl rfl rfl rfl (c_call rfl rfl) (Read_spec a1 p1 cap1 ds1 rest1 2 1 hok1 (by omega) (by omega)) rfl ?_
  rintro v25 _ ⟨hv25, rfl⟩
  have hR25 : ¬ Right ds1.length 2 1 := by unfold Right; omega
  rw [if_neg hR25, if_neg hR25] at hv25
  subst hv25
  refine RN.qq rfl rfl rfl rfl (PRun.q (p_move rfl (by conv => lhs; whnf))) ?_
  refine RN.qq rfl rfl rfl rfl (PRun.q (p_extract rfl rfl rfl)) ?_
  refine RN.qq rfl rfl rfl rfl (PRun.q (p_extract rfl rfl rfl)) ?_
  refine RN.qq rfl rfl rfl rfl (PRun.q (p_assign rfl (by conv => lhs; whnf))) ?_
  refine RN.qq rfl rfl rfl rfl (PRun.q (p_assign rfl (by conv => lhs; whnf))) ?_
  refine RN.nil ?_
  refine hK7 _ _ ?_
  refine T.seq fun K8 hK8 => ?_
  refine T.region (l := [0, 1, 2, 3, 4, 5, 6, 7, 8, 9, 10, 11, 12, 13, 14, 15, 16, 17, 18, 19, 20, 21, 22, 23, 24, 25]) rfl ?_
  refine RN.qq rfl rfl rfl rfl (PRun.q (p_move rfl (by conv => lhs; whnf))) ?_
  refine RN.qq rfl rfl rfl rfl (PRun.q (p_eql rfl rfl rfl)) ?_
  refine RN.qq rfl rfl rfl rfl (PRun.q (p_move rfl (by conv => lhs; whnf))) ?_
  refine RN.known 30 rfl (show _ = Value.bool true from rfl) ?_
  refine RN.qq rfl rfl rfl rfl (PRun.q (p_move rfl (by conv => lhs; whnf))) ?_
  refine RN.qq rfl rfl rfl rfl (PRun.q (p_eql rfl rfl rfl)) ?_
  refine RN.qq rfl rfl rfl rfl (PRun.q (p_pick_t rfl rfl (by conv => lhs; whnf))) ?_
  refine RN.qq rfl rfl rfl rfl (PRun.q (p_move rfl (by conv => lhs; whnf))) ?_
  refine RN.known 34 rfl (show _ = Value.bool true from rfl) ?_
  refine RN.qq rfl rfl rfl rfl (PRun.q (p_move rfl (by conv => lhs; whnf))) ?_
  refine RN.qq rfl rfl rfl rfl (PRun.q (p_eql rfl rfl rfl)) ?_
  refine RN.qq rfl rfl rfl rfl (PRun.q (p_pick_t rfl rfl (by conv => lhs; whnf))) ?_
  refine RN.qq rfl rfl rfl rfl (PRun.q (p_move rfl (by conv => lhs; whnf))) ?_
  refine RN.known 38 rfl (show _ = Value.bool true from rfl) ?_
  refine RN.qq rfl rfl rfl rfl (PRun.q (p_move rfl (by conv => lhs; whnf))) ?_
  refine RN.C [0, 0, 0] rfl rfl rfl rfl (c_call rfl rfl) (Write_spec a1 p1 cap1 ds1 rest1 1 2 [] hok1 (by omega)) rfl ?_
  rintro v40 _ ⟨hv40, d1, hd1, hb2, rfl⟩
  have hR40 : ¬ Right ds1.length 1 2 := by unfold Right; omega
  rw [if_neg hR40] at hv40 hb2
  subst hv40
  have hl2 : d1.length = 2 := by rw [bytes_len, hb2, ← bytes_len]; exact hl1
  refine RN.qq rfl rfl rfl rfl (PRun.q (p_eql rfl rfl rfl)) ?_
  refine RN.qq rfl rfl rfl rfl (PRun.q (p_pick_t rfl rfl (by conv => lhs; whnf))) ?_
  refine RN.qq rfl rfl rfl rfl (PRun.q (p_move rfl (by conv => lhs; whnf))) ?_
  refine RN.known 43 rfl (show _ = Value.bool true from rfl) ?_
  refine RN.qq rfl rfl rfl rfl (PRun.q (p_move rfl (by conv => lhs; whnf))) ?_
  refine RN.C [0, 0, 0] rfl rfl rfl rfl (c_call rfl rfl) (Trim_spec a1 p1 cap1 d1 rest1 0 0 hd1 (by omega)) rfl ?_
  rintro v45 _ ⟨hv45, d2, hd2, hb3, rfl⟩
  have hR45 : ¬ Right d1.length 0 0 := by unfold Right; omega
  rw [if_neg hR45] at hv45 hb3
  subst hv45
  have hl3 : d2.length = 2 := by rw [bytes_len, hb3, ← bytes_len]; exact hl2
  refine RN.qq rfl rfl rfl rfl (PRun.q (p_eql rfl rfl rfl)) ?_
  refine RN.qq rfl rfl rfl rfl (PRun.q (p_pick_t rfl rfl (by conv => lhs; whnf))) ?_
  refine RN.qq rfl rfl rfl rfl (PRun.q (p_move rfl (by conv => lhs; whnf))) ?_
  refine RN.known 48 rfl (show _ = Value.bool true from rfl) ?_
  refine RN.qq rfl rfl rfl rfl (PRun.q (p_move rfl (by conv => lhs; whnf))) ?_
  refine RN.C [0, 0, 0] rfl rfl rfl rfl (c_call rfl rfl) (Write_spec a1 p1 cap1 d2 rest1 (-1) 1 [120] hd2 (by omega)) rfl ?_
  rintro v50 _ ⟨hv50, d3, hd3, hb4, rfl⟩
  have hR50 : ¬ Right d2.length (-1) 1 := by unfold Right; omega
  rw [if_neg hR50] at hv50
  subst hv50
  refine RN.qq rfl rfl rfl rfl (PRun.q (p_eql rfl rfl rfl)) ?_
  refine RN.qq rfl rfl rfl rfl (PRun.q (p_pick_t rfl rfl (by conv => lhs; whnf))) ?_
  refine RN.qq rfl rfl rfl rfl (PRun.q (p_assign rfl (by conv => lhs; whnf))) ?_
  refine RN.nil ?_
  refine hK8 _ _ ?_
  refine T.ret ?_
  refine bodyQ_ret [] (RetRun.tmp RetRun.nil) ⟨rfl, rfl⟩ (Ent.pull_drop (is := [3]) rfl)

end Go.Proofs.Yticfabhcfdmbjaa
