/-
  Walks of law 17.
-/
import Derived.Test.YticfabhcfdmbjaaYtM8
import Derived.Test.YticfabhcfdmbjaaModelL
namespace Go.Proofs.Yticfabhcfdmbjaa
open Go Go.Sl Go.Proofs
set_option maxRecDepth 20000
open Go.Mo
theorem awake_spec  : Ctr Try.prog 11 [] [] (fun v Ps => v = .bool true ∧ Ps = []) := by
  refine Ctr.of_body Try.func11 rfl (by kernel_rfl) Try.ntmps11 rfl rfl (fun Fr => ?_)
  refine T.seq fun K1 hK1 => ?_
  refine T.region (l := [0]) rfl ?_
  refine RN.qq rfl rfl rfl rfl (PRun.q (p_assign rfl (by conv => lhs; whnf))) ?_
  refine RN.nil ?_
  refine hK1 _ _ ?_
  refine T.seq fun K2 hK2 => ?_
  refine T.region (l := [0, 1, 2, 3, 4, 5]) rfl ?_
  refine RN.C [] rfl rfl rfl rfl (c_call rfl rfl) (New_spec 2) rfl ?_
  rintro v10 Ps10 hq10
  obtain ⟨a1, p1, cap1, ds1, rest1, rfl, hn1, hok1, hb1, hc1, rfl⟩ := NewQ_yes hq10 (by omega)
  have hl1 : ds1.length = 2 := by omega
  refine RN.qq rfl rfl rfl rfl (PRun.q (p_move rfl (by conv => lhs; whnf))) ?_
  refine RN.qq rfl rfl rfl rfl (PRun.q (p_extract rfl rfl rfl)) ?_
  refine RN.qq rfl rfl rfl rfl (PRun.q (p_extract rfl rfl rfl)) ?_
  refine RN.qq rfl rfl rfl rfl (PRun.q (p_assign rfl (by conv => lhs; whnf))) ?_
  refine RN.qq rfl rfl rfl rfl (PRun.q (p_assign rfl (by conv => lhs; whnf))) ?_
  refine RN.nil ?_
  refine hK2 _ _ ?_
  refine T.seq fun K3 hK3 => ?_
  refine T.seq fun K4 hK4 => ?_
  refine T.region (l := [0, 1, 2, 3, 4, 5]) rfl ?_
  refine RN.qq rfl rfl rfl rfl (PRun.q (p_move rfl (by conv => lhs; whnf))) ?_
  refine RN.qq rfl rfl rfl rfl (PRun.q (p_neq rfl rfl rfl)) ?_
  refine RN.qq rfl rfl rfl rfl (PRun.q (p_move rfl (by conv => lhs; whnf))) ?_
  refine RN.known 15 rfl (show _ = Value.bool false from rfl) ?_
  refine RN.qq rfl rfl rfl rfl (PRun.q (p_move rfl (by conv => lhs; whnf))) ?_
  refine RN.qq rfl rfl rfl rfl (PRun.q (p_ptreql_nil rfl rfl rfl Try.underlying23)) ?_
  refine RN.qq rfl rfl rfl rfl (PRun.q (p_pick_f rfl rfl (by conv => lhs; whnf))) ?_
  refine RN.nil ?_
  refine hK4 _ _ ?_
  refine T.known 18 rfl (show _ = Value.bool false from rfl) ?_
  refine T.cond_f rfl ?_
  refine T.skip ?_
  refine hK3 _ _ ?_
  refine T.seq fun K5 hK5 => ?_
  refine T.region (l := [0, 1, 2]) rfl ?_
  refine RN.qq rfl rfl rfl rfl (PRun.q (p_move rfl (by conv => lhs; whnf))) ?_
  refine RN.C [0, 0, 0] rfl rfl rfl rfl (c_call rfl rfl) (Write_spec a1 p1 cap1 ds1 rest1 0 2 [97, 98] hok1 (by omega)) rfl ?_
  rintro v20 _ ⟨hv20, d1, hd1, hb2, rfl⟩
  have hR20 : Right ds1.length 0 2 := right_of (by omega)
  rw [if_pos hR20] at hv20 hb2
  subst hv20
  have hb3 : bytesOf d1 = [pad32 [97, 98], pad32 []] := by rw [hb2, hb1]; rfl
  have hl2 : d1.length = 2 := by rw [bytes_len, hb3]; rfl
  refine RN.qq rfl rfl rfl rfl (PRun.q (p_assign rfl (by conv => lhs; whnf))) ?_
  refine RN.nil ?_
  refine hK5 _ _ ?_
  refine T.seq fun K6 hK6 => ?_
  refine T.region (l := [0, 1, 2, 3, 4, 5, 6]) rfl ?_
  refine RN.qq rfl rfl rfl rfl (PRun.q (p_move rfl (by conv => lhs; whnf))) ?_
  refine RN.C [0, 0, 0] rfl rfl rfl rfl (c_call rfl rfl) (Read_spec a1 p1 cap1 d1 rest1 0 1 hd1 (by omega) (by omega)) rfl ?_
  rintro v23 _ ⟨hv23, rfl⟩
  have hR23 : Right d1.length 0 1 := right_of (by omega)
  rw [if_pos hR23, if_pos hR23, bytes_mid, hb3, show (([pad32 [97, 98], pad32 []].drop (Int.toNat 0)).take (Int.toNat 1)).flatten = pad32 [97, 98] from by rfl] at hv23
  subst hv23
  refine RN.qq rfl rfl rfl rfl (PRun.q (p_move rfl (by conv => lhs; whnf))) ?_
  refine RN.qq rfl rfl rfl rfl (PRun.q (p_extract rfl rfl rfl)) ?_
  refine RN.qq rfl rfl rfl rfl (PRun.q (p_extract rfl rfl rfl)) ?_
  refine RN.qq rfl rfl rfl rfl (PRun.q (p_assign rfl (by conv => lhs; whnf))) ?_
  refine RN.qq rfl rfl rfl rfl (PRun.q (p_assign rfl (by conv => lhs; whnf))) ?_
  refine RN.nil ?_
  refine hK6 _ _ ?_
  refine T.seq fun K7 hK7 => ?_
  refine T.region (l := [0, 1, 2]) rfl ?_
  refine RN.qq rfl rfl rfl rfl (PRun.q (p_move rfl (by conv => lhs; whnf))) ?_
  refine RN.C [0, 0, 0] rfl rfl rfl rfl (c_call rfl rfl) (Copy_spec a1 p1 cap1 d1 rest1 hd1 (by omega)) rfl ?_
  rintro v27 _ ⟨a2, p2, cap2, d2, rest2, rfl, hl3, hd2, hb4, hc2, rfl⟩
  refine RN.qq rfl rfl rfl rfl (PRun.q (p_assign rfl (by conv => lhs; whnf))) ?_
  refine RN.nil ?_
  refine hK7 _ _ ?_
  refine T.seq fun K8 hK8 => ?_
  refine T.seq fun K9 hK9 => ?_
  refine T.region (l := [0, 1]) rfl ?_
  refine RN.qq rfl rfl rfl rfl (PRun.q (p_move rfl (by conv => lhs; whnf))) ?_
  refine RN.qq rfl rfl rfl rfl (PRun.q (p_ptreql_nil rfl rfl rfl Try.underlying23)) ?_
  refine RN.nil ?_
  refine hK9 _ _ ?_
  refine T.known 29 rfl (show _ = Value.bool false from rfl) ?_
  refine T.cond_f rfl ?_
  refine T.skip ?_
  refine hK8 _ _ ?_
  refine T.seq fun K10 hK10 => ?_
  refine T.region (l := [0, 1, 2]) rfl ?_
  refine RN.qq rfl rfl rfl rfl (PRun.q (p_move rfl (by conv => lhs; whnf))) ?_
  refine RN.C [0, 0, 0] rfl rfl rfl rfl (c_call rfl rfl) (Trim_spec a2 p2 cap2 d2 rest2 0 1 hd2 (by omega)) rfl ?_
  rintro v31 _ ⟨hv31, d3, hd3, hb5, rfl⟩
  have hR31 : Right d2.length 0 1 := right_of (by omega)
  rw [if_pos hR31] at hv31 hb5
  subst hv31
  have hb6 : bytesOf d3 = [pad32 [], pad32 []] := by rw [hb5, hb4, hb3]; rfl
  have hl4 : d3.length = 2 := by rw [bytes_len, hb6]; rfl
  refine RN.qq rfl rfl rfl rfl (PRun.q (p_assign rfl (by conv => lhs; whnf))) ?_
  refine RN.nil ?_
  refine hK10 _ _ ?_
  refine T.seq fun K11 hK11 => ?_
  refine T.region (l := [0, 1, 2, 3]) rfl ?_
  refine RN.qq rfl rfl rfl rfl (PRun.q (p_move rfl (by conv => lhs; whnf))) ?_
  refine RN.qq rfl rfl rfl rfl (PRun.q (p_move rfl (by conv => lhs; whnf))) ?_
  refine RN.ent (Ent.unflat (arrR 75 49 5 a2 p2 cap2 d3 rest2 ++ arrR 75 49 5 a1 p1 cap1 d1 rest1) [Fr]) ?_
  refine RN.C [0] rfl rfl rfl rfl (c_call rfl rfl) (Differs_spec (sep (arrR 75 49 5 a2 p2 cap2 d3 rest2 ++ arrR 75 49 5 a1 p1 cap1 d1 rest1)) a1 p1 cap1 d1 rest1 a2 p2 cap2 d3 rest2 (Ent.pull_drop (is := [3, 3, 3]) rfl) (Ent.pull_drop (is := [0, 0, 0]) rfl) hd1 hd3 (by omega) (by omega)) rfl ?_
  rintro v34 _ ⟨hv34, rfl⟩
  rw [show difK (bytesOf d1) (bytesOf d3) (max d1.length d3.length) = [0] from by rw [hb3, hb6, hl2, hl4]; decide]
  refine RN.qq rfl rfl rfl rfl (PRun.q (p_assign rfl (by conv => lhs; whnf))) ?_
  refine RN.nil ?_
  refine hK11 _ _ ?_
  refine T.seq fun K12 hK12 => ?_
  refine T.region (l := [0, 1, 2, 3, 4, 5, 6, 7, 8, 9, 10, 11, 12, 13, 14, 15, 16, 17, 18, 19, 20, 21, 22, 23, 24, 25, 26, 27, 28, 29, 30, 31, 32, 33, 34, 35, 36, 37]) rfl ?_
  refine RN.qq rfl rfl rfl rfl (PRun.q (p_move rfl (by conv => lhs; whnf))) ?_
  refine RN.qq rfl rfl rfl rfl (PRun.q (p_eql rfl rfl rfl)) ?_
  refine RN.qq rfl rfl rfl rfl (PRun.q (p_move rfl (by conv => lhs; whnf))) ?_
  refine RN.known 37 rfl (show _ = Value.bool true from rfl) ?_
  refine RN.qq rfl rfl rfl rfl (PRun.q (p_move rfl (by conv => lhs; whnf))) ?_
  refine RN.qq rfl rfl rfl rfl (PRun.q (p_eql rfl rfl rfl)) ?_
  refine RN.qq rfl rfl rfl rfl (PRun.q (p_pick_t rfl rfl (by conv => lhs; whnf))) ?_
  refine RN.qq rfl rfl rfl rfl (PRun.q (p_move rfl (by conv => lhs; whnf))) ?_
  refine RN.known 41 rfl (show _ = Value.bool true from rfl) ?_
  refine RN.qq rfl rfl rfl rfl (PRun.q (p_move rfl (by conv => lhs; whnf))) ?_
  refine RN.qq rfl rfl rfl rfl (PRun.q (p_len_s rfl Try.underlying9 rfl)) ?_
  refine RN.qq rfl rfl rfl rfl (PRun.q (p_eql rfl rfl rfl)) ?_
  refine RN.qq rfl rfl rfl rfl (PRun.q (p_pick_t rfl rfl (by conv => lhs; whnf))) ?_
  refine RN.qq rfl rfl rfl rfl (PRun.q (p_move rfl (by conv => lhs; whnf))) ?_
  refine RN.known 46 rfl (show _ = Value.bool true from rfl) ?_
  refine RN.qq rfl rfl rfl rfl (PRun.q (p_move rfl (by conv => lhs; whnf))) ?_
  refine RN.qq rfl rfl rfl rfl (PRun.q (by first | exact (p_slice_s_hi (h := 3) rfl Try.underlying9 rfl rfl (by decide)) | exact (p_sliceN_s (l := 0) (h := 3) rfl Try.underlying9 rfl rfl rfl (by decide)) | exact (p_slice_s rfl Try.underlying9 rfl rfl rfl (by decide)))) ?_
  refine RN.qq rfl rfl rfl rfl (PRun.q (p_seql rfl rfl rfl)) ?_
  refine RN.qq rfl rfl rfl rfl (PRun.q (p_pick_t rfl rfl (by conv => lhs; whnf))) ?_
  refine RN.qq rfl rfl rfl rfl (PRun.q (p_move rfl (by conv => lhs; whnf))) ?_
  refine RN.known 51 rfl (show _ = Value.bool true from rfl) ?_
  refine RN.qq rfl rfl rfl rfl (PRun.q (p_move rfl (by conv => lhs; whnf))) ?_
  refine RN.qq rfl rfl rfl rfl (PRun.q (p_eql rfl rfl rfl)) ?_
  refine RN.qq rfl rfl rfl rfl (PRun.q (p_pick_t rfl rfl (by conv => lhs; whnf))) ?_
  refine RN.qq rfl rfl rfl rfl (PRun.q (p_move rfl (by conv => lhs; whnf))) ?_
  refine RN.known 55 rfl (show _ = Value.bool true from rfl) ?_
  refine RN.qq rfl rfl rfl rfl (PRun.q (p_move rfl (by conv => lhs; whnf))) ?_
  refine RN.qq rfl rfl rfl rfl (q_len_vec rfl Try.underlying40 rfl (i := 0) rfl) ?_
  refine RN.openVec 0 rfl (by decide) ?_
  rintro b34 cap34 rest34 rfl hv1 hv2 hv3
  refine RN.ent (Ent.cons (Ent.refl _) (Ent.flat (arrR 75 49 5 a2 p2 cap2 d3 rest2 ++ arrR 75 49 5 a1 p1 cap1 d1 rest1) [Fr])) ?_
  refine RN.qq rfl rfl rfl rfl (PRun.q (p_eql rfl rfl rfl)) ?_
  refine RN.qq rfl rfl rfl rfl (PRun.q (p_pick_t rfl rfl (by conv => lhs; whnf))) ?_
  refine RN.qq rfl rfl rfl rfl (PRun.q (p_move rfl (by conv => lhs; whnf))) ?_
  refine RN.known 60 rfl (show _ = Value.bool true from rfl) ?_
  refine RN.qq rfl rfl rfl rfl (PRun.q (p_move rfl (by conv => lhs; whnf))) ?_
  refine RN.qq rfl rfl rfl rfl (PRun.q (by first | exact (p_indexAddr1N (i := 0) rfl Try.underlying40 ts_3 rfl rfl (by decide)) | exact (p_indexAddr1 rfl Try.underlying40 ts_3 rfl rfl (by decide)))) ?_
  refine RN.qq rfl rfl rfl rfl (q_load rfl sc_3 rfl (i := 0) rfl rfl) ?_
  refine RN.qq rfl rfl rfl rfl (PRun.q (p_eql rfl rfl rfl)) ?_
  refine RN.qq rfl rfl rfl rfl (PRun.q (p_pick_t rfl rfl (by conv => lhs; whnf))) ?_
  refine RN.qq rfl rfl rfl rfl (PRun.q (p_move rfl (by conv => lhs; whnf))) ?_
  refine RN.known 66 rfl (show _ = Value.bool true from rfl) ?_
  refine RN.qq rfl rfl rfl rfl (PRun.q (p_move rfl (by conv => lhs; whnf))) ?_
  refine RN.C [4, 4, 4] rfl rfl rfl rfl (c_call rfl rfl) (Content_spec a1 p1 cap1 d1 rest1 hd1 (by omega) (by omega)) rfl ?_
  rintro _ _ ⟨rfl, rfl⟩
  refine RN.qq rfl rfl rfl rfl (PRun.q (p_len_s rfl Try.underlying9 rfl)) ?_
  refine RN.qq rfl rfl rfl rfl (PRun.q (p_eql rfl rfl rfl)) ?_
  refine RN.qq rfl rfl rfl rfl (PRun.q (p_pick_t rfl rfl (by conv => lhs; whnf))) ?_
  refine RN.qq rfl rfl rfl rfl (PRun.q (p_assign rfl (by conv => lhs; whnf))) ?_
  refine RN.nil ?_
  refine hK12 _ _ ?_
  refine T.ret ?_
  refine bodyQ_ret [] (RetRun.tmp RetRun.nil) ⟨?_, rfl⟩ (Ent.pull_drop (is := [7]) rfl)
  show Value.bool (decide (((cat d1).length : Int) = 64)) = _
  rw [cat_length hd1, hl2]
  rfl

end Go.Proofs.Yticfabhcfdmbjaa
