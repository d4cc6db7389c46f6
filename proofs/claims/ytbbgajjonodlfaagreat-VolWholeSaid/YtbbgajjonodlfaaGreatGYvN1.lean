/-
 Names: walked.
-/
import Derived.Test.YtbbgajjonodlfaaGreatGYvTy
import Derived.Test.YtbbgajjonodlfaaGreatGModelU
import Derived.Test.YtbbgajjonodlfaaGreatGSl12
set_option linter.unusedVariables false
set_option linter.unusedSimpArgs false
namespace Go.Proofs.YtbbgajjonodlfaaGreat
open Go Go.Sl Go.Proofs
set_option maxRecDepth 20000
open Go.Mo
theorem LHas_spec (l p : List UInt8) : Ctr Tryz.prog 60 [strV l, strV p] [] (fun w Ps => w = .bool (decide (p.length ≤ l.length ∧ l.take p.length = p)) ∧ Ps = []) := by
 refine Ctr.of_body Tryz.func60 rfl (by kernel_rfl) Tryz.ntmps60 rfl rfl (fun Fr => ?_)
 refine T.seq fun K1 hK1 => ?_
 refine T.region (l := [0]) rfl ?_
 refine RN.a rfl ?_
 refine RN.nil ?_
 refine hK1 _ _ ?_
 refine T.seq fun K2 hK2 => ?_
 refine T.region (l := [0, 1, 2, 3, 4, 5, 6, 7, 8, 9, 10, 11, 12, 13]) rfl ?_
 refine RN.m rfl ?_
 refine RN.p rfl (p_len_s rfl Tryz.underlying9 rfl) ?_
 refine RN.m rfl ?_
 refine RN.p rfl (p_len_s rfl Tryz.underlying9 rfl) ?_
 refine RN.p rfl (p_geq rfl rfl rfl) ?_
 refine RN.m rfl ?_
 first | refine RN.split_dec 10 rfl (fun h10 => ?_) (fun h10 => ?_) | refine RN.split 10 rfl (fun h10 => ?_) (fun h10 => ?_)
 ·
  refine RN.m rfl ?_
  refine RN.m rfl ?_
  refine RN.p rfl (p_len_s rfl Tryz.underlying9 rfl) ?_
  refine RN.p rfl (by first | exact (p_slice_s_hi rfl Tryz.underlying9 rfl rfl (by omega)) | exact (p_sliceN_s (l := 0) rfl Tryz.underlying9 rfl rfl rfl (by omega)) | exact (p_slice_s rfl Tryz.underlying9 rfl rfl rfl (by omega))) ?_
  refine RN.m rfl ?_
  refine RN.p rfl (p_seql rfl rfl rfl) ?_
  refine RN.pt rfl ?_
  refine RN.a rfl ?_
  refine RN.nil ?_
  refine hK2 _ _ ?_
  refine T.ret ?_
  refine bodyQ_ret [] (RetRun.tmp RetRun.nil) ⟨congrArg Value.bool (decide_eq_decide.2 ⟨fun g => ⟨by omega, g⟩, fun g => g.2⟩), rfl⟩ (Ent.refl _)
 ·
  refine RN.no0 rfl ?_
  refine RN.no0 rfl ?_
  refine RN.no0 rfl ?_
  refine RN.no0 rfl ?_
  refine RN.no0 rfl ?_
  refine RN.no0 rfl ?_
  refine RN.pf rfl ?_
  refine RN.a rfl ?_
  refine RN.nil ?_
  refine hK2 _ _ ?_
  refine T.ret ?_
  refine bodyQ_ret [] (RetRun.tmp RetRun.nil) ⟨congrArg Value.bool (decide_eq_false (fun g => h10 (by have := g.1; omega))).symm, rfl⟩ (Ent.refl _)

theorem Has_spec (l p : List UInt8) : Ctr Tryz.prog 43 [strV l, strV p] [] (fun w Ps => w = .bool (decide (p.length ≤ l.length ∧ l.take p.length = p)) ∧ Ps = []) := by
 refine Ctr.of_body Tryz.func43 rfl (by kernel_rfl) Tryz.ntmps43 rfl rfl (fun Fr => ?_)
 refine T.seq fun K1 hK1 => ?_
 refine T.region (l := [0]) rfl ?_
 refine RN.a rfl ?_
 refine RN.nil ?_
 refine hK1 _ _ ?_
 refine T.seq fun K2 hK2 => ?_
 refine T.region (l := [0, 1, 2, 3]) rfl ?_
 refine RN.m rfl ?_
 refine RN.m rfl ?_
 refine RN.C [] rfl rfl rfl rfl (c_call rfl rfl) (LHas_spec l p) rfl ?_
 rintro _ _ ⟨rfl, rfl⟩
 refine RN.a rfl ?_
 refine RN.nil ?_
 refine hK2 _ _ ?_
 refine T.ret ?_
 refine bodyQ_ret [] (RetRun.tmp RetRun.nil) ⟨rfl, rfl⟩ (Ent.refl _)

theorem Good_spec (l : List UInt8) : Ctr Tryz.prog 18 [strV l] [] (fun w Ps => ∃ r, w = .bool r ∧ GoodQ l r ∧ Ps = []) := by
 refine Ctr.of_body Tryz.func18 rfl (by kernel_rfl) Tryz.ntmps18 rfl rfl (fun Fr => ?_)
 refine T.seq fun K1 hK1 => ?_
 refine T.region (l := [0]) rfl ?_
 refine RN.a rfl ?_
 refine RN.nil ?_
 refine hK1 _ _ ?_
 refine T.seq fun K2 hK2 => ?_
 refine T.seq fun K3 hK3 => ?_
 refine T.region (l := [0, 1]) rfl ?_
 refine RN.m rfl ?_
 refine RN.E rfl rfl rfl rfl (e_range rfl Tryz.underlying9 rfl) ?_
 rintro _ _ ⟨b6, rfl, rfl⟩
 refine RN.nil ?_
 refine hK3 _ _ ?_
 refine T.block ?_
 refine T.loop (G := Nat) (fun k => RunsR l k ∧ posR l k ≤ l.length) (fun k => [(0, strV l), (6, ptr b6 0)]) (fun k => [iter b6 l (posR l k), Fr]) (fun k => l.length - posR l k) 0 ⟨runs_zero, Nat.zero_le _⟩ (LiveIs.cons rfl (LiveIs.cons rfl LiveIs.nil)) (Ent.refl _) ?_
 rintro k e4 ⟨hr, hp⟩
 refine T.seq fun K5 hK5 => ?_
 refine T.region (l := [0, 1]) rfl ?_
 by_cases hlt : posR l k < l.length
 ·
  refine RN.E rfl rfl rfl rfl (e_next_go rfl rfl (i := 0) rfl hlt) ?_
  rintro _ _ ⟨rfl, rfl⟩
  refine RN.p rfl (p_extract rfl rfl rfl) ?_
  refine RN.nil ?_
  refine hK5 _ _ ?_
  refine T.seq fun K6 hK6 => ?_
  refine T.cond_t rfl ?_
  refine T.skip ?_
  refine hK6 _ _ ?_
  refine T.block ?_
  refine T.seq fun K7 hK7 => ?_
  refine T.region (l := [0, 1, 2, 3]) rfl ?_
  refine RN.p rfl (p_extract rfl rfl rfl) ?_
  refine RN.p rfl (p_extract rfl rfl rfl) ?_
  refine RN.a rfl ?_
  refine RN.a rfl ?_
  refine RN.nil ?_
  refine hK7 _ _ ?_
  refine T.seq fun K8 hK8 => ?_
  refine T.region (l := [0, 1, 2, 3, 4, 5, 6, 7, 8, 9, 10, 11, 12, 13, 14, 15, 16]) rfl ?_
  refine RN.m rfl ?_
  refine RN.p rfl (p_lss rfl rfl rfl) ?_
  refine RN.m rfl ?_
  first | refine RN.split_dec 13 rfl (fun h13 => ?_) (fun h13 => ?_) | refine RN.split 13 rfl (fun h13 => ?_) (fun h13 => ?_)
  ·
   refine RN.no0 rfl ?_
   refine RN.no0 rfl ?_
   refine RN.pt rfl ?_
   refine RN.m rfl ?_
   refine RN.no0 rfl ?_
   refine RN.no0 rfl ?_
   refine RN.no0 rfl ?_
   refine RN.no0 rfl ?_
   refine RN.no0 rfl ?_
   refine RN.no0 rfl ?_
   refine RN.no0 rfl ?_
   refine RN.no0 rfl ?_
   refine RN.no0 rfl ?_
   refine RN.pt rfl ?_
   refine RN.nil ?_
   refine hK8 _ _ ?_
   refine T.cond_t rfl ?_
   refine T.seq fun K9 hK9 => ?_
   refine T.region (l := [0]) rfl ?_
   refine RN.a rfl ?_
   refine RN.nil ?_
   refine hK9 _ _ ?_
   refine T.ret ?_
   refine Post.block_r ?_
   refine Post.seq_r ?_
   refine Post.block_r ?_
   refine Post.seq_r ?_
   refine bodyQ_ret [] (RetRun.tmp RetRun.nil) ⟨_, rfl, .inl ⟨⟨k, hr, hlt, (fun ho => by have := ho.1; omega)⟩, rfl⟩, rfl⟩ (Ent.pull_drop (is := [1]) rfl)
  ·
   refine RN.m rfl ?_
   refine RN.p rfl (p_eql rfl rfl rfl) ?_
   refine RN.pf rfl ?_
   refine RN.m rfl ?_
   first | refine RN.split_dec 17 rfl (fun h17 => ?_) (fun h17 => ?_) | refine RN.split 17 rfl (fun h17 => ?_) (fun h17 => ?_)
   ·
    refine RN.no0 rfl ?_
    refine RN.no0 rfl ?_
    refine RN.no0 rfl ?_
    refine RN.no0 rfl ?_
    refine RN.no0 rfl ?_
    refine RN.no0 rfl ?_
    refine RN.no0 rfl ?_
    refine RN.no0 rfl ?_
    refine RN.no0 rfl ?_
    refine RN.pt rfl ?_
    refine RN.nil ?_
    refine hK8 _ _ ?_
    refine T.cond_t rfl ?_
    refine T.seq fun K10 hK10 => ?_
    refine T.region (l := [0]) rfl ?_
    refine RN.a rfl ?_
    refine RN.nil ?_
    refine hK10 _ _ ?_
    refine T.ret ?_
    refine Post.block_r ?_
    refine Post.seq_r ?_
    refine Post.block_r ?_
    refine Post.seq_r ?_
    refine bodyQ_ret [] (RetRun.tmp RetRun.nil) ⟨_, rfl, .inl ⟨⟨k, hr, hlt, (fun ho => ho.2.1 (by omega))⟩, rfl⟩, rfl⟩ (Ent.pull_drop (is := [1]) rfl)
   ·
    refine RN.m rfl ?_
    refine RN.p rfl (p_eql rfl rfl rfl) ?_
    refine RN.m rfl ?_
    first | refine RN.split_dec 20 rfl (fun h20 => ?_) (fun h20 => ?_) | refine RN.split 20 rfl (fun h20 => ?_) (fun h20 => ?_)
    ·
     refine RN.m rfl ?_
     refine RN.m rfl ?_
     refine RN.p rfl (by first | exact (p_slice_s_lo rfl Tryz.underlying9 rfl rfl (by omega)) | exact (p_sliceN_s rfl Tryz.underlying9 rfl rfl rfl (by omega)) | exact (p_slice_s rfl Tryz.underlying9 rfl rfl rfl (by omega))) ?_
     refine RN.C [] rfl rfl rfl rfl (c_call rfl rfl) (Has_spec (l.drop (posR l k)) FFFD) rfl ?_
     rintro _ _ ⟨rfl, rfl⟩
     refine RN.p rfl (by first | exact (p_not_dec rfl rfl) | exact (p_not rfl rfl)) ?_
     refine RN.pt rfl ?_
     refine RN.pf rfl ?_
     refine RN.nil ?_
     refine hK8 _ _ ?_
     first | refine T.cond_dec rfl (fun h27 => ?_) (fun h27 => ?_) | refine T.cond rfl (fun h27 => ?_) (fun h27 => ?_)
     ·
      refine T.seq fun K11 hK11 => ?_
      refine T.region (l := [0]) rfl ?_
      refine RN.a rfl ?_
      refine RN.nil ?_
      refine hK11 _ _ ?_
      refine T.ret ?_
      refine Post.block_r ?_
      refine Post.seq_r ?_
      refine Post.block_r ?_
      refine Post.seq_r ?_
      refine bodyQ_ret [] (RetRun.tmp RetRun.nil) ⟨_, rfl, .inl ⟨⟨k, hr, hlt, (fun ho => h27 (pre_no hlt (by omega) ho.2.2))⟩, rfl⟩, rfl⟩ (Ent.pull_drop (is := [1]) rfl)
     ·
      refine T.skip ?_
      refine ⟨k + 1, (have h2 := runs_step hr hlt ⟨by omega, by omega, fun e => by have h := pre_yes (Classical.not_not.1 h27); rw [e] at h; simp at h⟩; ⟨h2, posR_le h2⟩), (by have := dec_step hlt; show _ - (posR l k + _) < _ - posR l k; omega), (LiveIs.cons rfl (LiveIs.cons rfl LiveIs.nil)), Ent.refl _⟩
    ·
     refine RN.no0 rfl ?_
     refine RN.no0 rfl ?_
     refine RN.no0 rfl ?_
     refine RN.no0 rfl ?_
     refine RN.no0 rfl ?_
     refine RN.pf rfl ?_
     refine RN.pf rfl ?_
     refine RN.nil ?_
     refine hK8 _ _ ?_
     refine T.cond_f rfl ?_
     refine T.skip ?_
     refine ⟨k + 1, (have h2 := runs_step hr hlt ⟨by omega, by omega, fun e => h20 (by have : (dec l (posR l k)).1 = 65533 := congrArg Prod.fst e; omega)⟩; ⟨h2, posR_le h2⟩), (by have := dec_step hlt; show _ - (posR l k + _) < _ - posR l k; omega), (LiveIs.cons rfl (LiveIs.cons rfl LiveIs.nil)), Ent.refl _⟩
 ·
  refine RN.E rfl rfl rfl rfl (e_next_end rfl rfl (i := 0) rfl (by omega)) ?_
  rintro _ _ ⟨rfl, rfl⟩
  refine RN.p rfl (p_extract rfl rfl rfl) ?_
  refine RN.nil ?_
  refine hK5 _ _ ?_
  refine T.seq fun K12 hK12 => ?_
  refine T.cond_f rfl ?_
  refine T.exit ?_
  refine Post.seq_x ?_
  refine Post.seq_x ?_
  refine Post.block_hit ?_
  refine hK2 _ _ ?_
  refine T.seq fun K13 hK13 => ?_
  refine T.region (l := [0, 1, 2, 3, 4, 5, 6, 7, 8]) rfl ?_
  refine RN.m rfl ?_
  refine RN.p rfl (p_len_s rfl Tryz.underlying9 rfl) ?_
  refine RN.p rfl (p_geq rfl rfl rfl) ?_
  refine RN.m rfl ?_
  first | refine RN.split_dec 31 rfl (fun h31 => ?_) (fun h31 => ?_) | refine RN.split 31 rfl (fun h31 => ?_) (fun h31 => ?_)
  ·
   refine RN.m rfl ?_
   refine RN.p rfl (p_len_s rfl Tryz.underlying9 rfl) ?_
   refine RN.p rfl (p_leq rfl rfl rfl) ?_
   refine RN.pt rfl ?_
   refine RN.a rfl ?_
   refine RN.nil ?_
   refine hK13 _ _ ?_
   refine T.ret ?_
   refine bodyQ_ret [] (RetRun.tmp RetRun.nil) ⟨_, rfl, .inr ⟨⟨k, hr, by omega⟩, decide_eq_decide.2 ⟨fun g => ⟨by omega, by omega⟩, fun g => by omega⟩⟩, rfl⟩ (Ent.pull_drop (is := [1]) rfl)
  ·
   refine RN.no0 rfl ?_
   refine RN.no0 rfl ?_
   refine RN.no0 rfl ?_
   refine RN.pf rfl ?_
   refine RN.a rfl ?_
   refine RN.nil ?_
   refine hK13 _ _ ?_
   refine T.ret ?_
   refine bodyQ_ret [] (RetRun.tmp RetRun.nil) ⟨_, rfl, .inr ⟨⟨k, hr, by omega⟩, (decide_eq_false (fun g => by omega)).symm⟩, rfl⟩ (Ent.pull_drop (is := [1]) rfl)

end Go.Proofs.YtbbgajjonodlfaaGreat
