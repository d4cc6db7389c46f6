/-
 Names: walked.
-/
import Derived.Test.YtbbgajjonodlfaaGreatGYvTy
import Derived.Test.YtbbgajjonodlfaaGreatGModelU
import Derived.Test.YtbbgajjonodlfaaGreatGSl12
set_option linter.unusedVariables false
set_option linter.unusedSimpArgs false
namespace Go.Proofs.YtbbgajjonodlfaaGreat
open Go Go.Sl Go.Proofs
set_option maxRecDepth 20000
open Go.Mo
theorem LHas_spec (l p : List UInt8) : Ctr Tryz.prog 60 [strV l, strV p] [] (fun w Ps => w = .bool (decide (p.length ≤ l.length ∧ l.take p.length = p)) ∧ Ps = []) := by
 refine Ctr.of_body Tryz.func60 rfl (by kernel_rfl) Tryz.ntmps60 rfl rfl (fun Fr => ?_)
 refine T.seq fun K1 hK1 => ?_
 refine T.region (l := [0]) rfl ?_
 refine RN.a rfl ?_
 refine RN.nil ?_
 refine hK1 _ _ ?_
 refine T.seq fun K2 hK2 => ?_
 refine T.region (l := [0, 1, 2, 3, 4, 5, 6, 7, 8, 9, 10, 11, 12, 13]) rfl ?_
 refine RN.m rfl ?_
 refine RN.p rfl (p_len_s rfl Tryz.underlying9 rfl) ?_
 refine RN.m rfl ?_
 refine RN.p rfl (p_len_s rfl Tryz.underlying9 rfl) ?_
 refine RN.p rfl (p_geq rfl rfl rfl) ?_
 refine RN.m rfl ?_
 refine RN.split_dec 10 rfl (fun h10 => ?_) (fun h10 => ?_)
 ·
  refine RN.m rfl ?_
  refine RN.m rfl ?_
  refine RN.p rfl (p_len_s rfl Tryz.underlying9 rfl) ?_
  refine RN.p rfl (by exact (p_slice_s_hi rfl Tryz.underlying9 rfl rfl (by omega))) ?_
  refine RN.m rfl ?_
  refine RN.p rfl (p_seql rfl rfl rfl) ?_
  refine RN.pt rfl ?_
  refine RN.a rfl ?_
  refine RN.nil ?_
  refine hK2 _ _ ?_
  refine T.ret ?_
  refine bodyQ_ret [] (RetRun.tmp RetRun.nil) ⟨congrArg Value.bool (decide_eq_decide.2 ⟨fun g => ⟨by omega, g⟩, fun g => g.2⟩), rfl⟩ (Ent.refl _)
 ·
  refine RN.no0 rfl ?_
  refine RN.no0 rfl ?_
  refine RN.no0 rfl ?_
  refine RN.no0 rfl ?_
  refine RN.no0 rfl ?_
  refine RN.no0 rfl ?_
  refine RN.pf rfl ?_
  refine RN.a rfl ?_
  refine RN.nil ?_
  refine hK2 _ _ ?_
  refine T.ret ?_
  refine bodyQ_ret [] (RetRun.tmp RetRun.nil) ⟨congrArg Value.bool (decide_eq_false (fun g => h10 (by have := g.1; omega))).symm, rfl⟩ (Ent.refl _)

theorem Has_spec (l p : List UInt8) : Ctr Tryz.prog 43 [strV l, strV p] [] (fun w Ps => w = .bool (decide (p.length ≤ l.length ∧ l.take p.length = p)) ∧ Ps = []) := by
 refine Ctr.of_body Tryz.func43 rfl (by kernel_rfl) Tryz.ntmps43 rfl rfl (fun Fr => ?_)
 refine T.seq fun K1 hK1 => ?_
 refine T.region (l := [0]) rfl ?_
 refine RN.a rfl ?_
 refine RN.nil ?_
 refine hK1 _ _ ?_
 refine T.seq fun K2 hK2 => ?_
 refine T.region (l := [0, 1, 2, 3]) rfl ?_
 refine RN.m rfl ?_
 refine RN.m rfl ?_
 refine RN.C [] rfl rfl rfl rfl (c_call rfl rfl) (LHas_spec l p) rfl ?_
 rintro _ _ ⟨rfl, rfl⟩
 refine RN.a rfl ?_
 refine RN.nil ?_
 refine hK2 _ _ ?_
 refine T.ret ?_
 refine bodyQ_ret [] (RetRun.tmp RetRun.nil) ⟨rfl, rfl⟩ (Ent.refl _)

theorem Good_spec (l : List UInt8) : Ctr Tryz.prog 18 [strV l] [] (fun w Ps => ∃ r, w = .bool r ∧ GoodQ l r ∧ Ps = []) := by
 refine Ctr.of_body Tryz.func18 rfl (by kernel_rfl) Tryz.ntmps18 rfl rfl (fun Fr => ?_)
 refine T.seq fun K1 hK1 => ?_
 refine T.region (l := [0]) rfl ?_
 refine RN.a rfl ?_
 refine RN.nil ?_
 refine hK1 _ _ ?_
 refine T.seq fun K2 hK2 => ?_
 refine T.seq fun K3 hK3 => ?_
 refine T.region (l := [0, 1]) rfl ?_
 refine RN.m rfl ?_
 refine RN.E rfl rfl rfl rfl (e_range rfl Tryz.underlying9 rfl) ?_
 rintro _ _ ⟨b6, rfl, rfl⟩
 refine RN.nil ?_
 refine hK3 _ _ ?_
 refine T.block ?_
 refine T.loop (G := Nat) (fun k => RunsR l k ∧ posR l k ≤ l.length) (fun k => [(0, strV l), (6, ptr b6 0)]) (fun k => [iter b6 l (posR l k), Fr]) (fun k => l.length - posR l k) 0 ⟨runs_zero, Nat.zero_le _⟩ (LiveIs.cons rfl (LiveIs.cons rfl LiveIs.nil)) (Ent.refl _) ?_
 rintro k e4 ⟨hr, hp⟩
 refine T.seq fun K5 hK5 => ?_
 refine T.region (l := [0, 1]) rfl ?_
 by_cases hlt : posR l k < l.length
 ·
  refine RN.E rfl rfl rfl rfl (e_next_go rfl rfl (i := 0) rfl hlt) ?_
  rintro _ _ ⟨rfl, rfl⟩
  refine RN.p rfl (p_extract rfl rfl rfl) ?_
  refine RN.nil ?_
  refine hK5 _ _ ?_
  refine T.seq fun K6 hK6 => ?_
  refine T.cond_t rfl ?_
  refine T.skip ?_
  refine hK6 _ _ ?_
  refine T.block ?_
  refine T.seq fun K7 hK7 => ?_
  refine T.region (l := [0, 1, 2, 3]) rfl ?_
  refine RN.p rfl (p_extract rfl rfl rfl) ?_
  refine RN.p rfl (p_extract rfl rfl rfl) ?_
  refine RN.a rfl ?_
  refine RN.a rfl ?_
  refine RN.nil ?_
  refine hK7 _ _ ?_
  refine T.seq fun K8 hK8 => ?_
  refine T.region (l := [0, 1, 2, 3, 4, 5, 6, 7, 8, 9, 10, 11, 12, 13, 14, 15, 16]) rfl ?_
  refine RN.m rfl ?_
  refine RN.p rfl (p_lss rfl rfl rfl) ?_
  refine RN.m rfl ?_
  refine RN.split_dec 13 rfl (fun h13 => ?_) (fun h13 => ?_)
  ·
   refine RN.no0 rfl ?_
   refine RN.no0 rfl ?_
   refine RN.pt rfl ?_
   refine RN.m rfl ?_
   refine RN.no0 rfl ?_
   refine RN.no0 rfl ?_
   refine RN.no0 rfl ?_
   refine RN.no0 rfl ?_
   refine RN.no0 rfl ?_
   refine RN.no0 rfl ?_
   refine RN.no0 rfl ?_
   refine RN.no0 rfl ?_
   refine RN.no0 rfl ?_
   refine RN.pt rfl ?_
   refine RN.nil ?_
   refine hK8 _ _ ?_
   refine T.cond_t rfl ?_
   refine T.seq fun K9 hK9 => ?_
   refine T.region (l := [0]) rfl ?_
   refine RN.a rfl ?_
   refine RN.nil ?_
   refine hK9 _ _ ?_
   refine T.ret ?_
   refine Post.block_r ?_
   refine Post.seq_r ?_
   refine Post.block_r ?_
   refine Post.seq_r ?_
   refine bodyQ_ret [] (RetRun.tmp RetRun.nil) ⟨_, rfl, .inl ⟨⟨k, hr, hlt, (fun ho => by have := ho.1; omega)⟩, rfl⟩, rfl⟩ (Ent.pull_drop (is := [1]) rfl)
  ·
   refine RN.m rfl ?_
   refine RN.p rfl (p_eql rfl rfl rfl) ?_
   refine RN.pf rfl ?_
   refine RN.m rfl ?_
   refine RN.split_dec 17 rfl (fun h17 => ?_) (fun h17 => ?_)
   ·
    refine RN.no0 rfl ?_
    refine RN.no0 rfl ?_
    refine RN.no0 rfl ?_
    refine RN.no0 rfl ?_
    refine RN.no0 rfl ?_
    refine RN.no0 rfl ?_
    refine RN.no0 rfl ?_
    refine RN.no0 rfl ?_
    refine RN.no0 rfl ?_
    refine RN.pt rfl ?_
    refine RN.nil ?_
    refine hK8 _ _ ?_
    refine T.cond_t rfl ?_
    refine T.seq fun K10 hK10 => ?_
    refine T.region (l := [0]) rfl ?_
    refine RN.a rfl ?_
    refine RN.nil ?_
    refine hK10 _ _ ?_
    refine T.ret ?_
    refine Post.block_r ?_
    refine Post.seq_r ?_
    refine Post.block_r ?_
    refine Post.seq_r ?_
    refine bodyQ_ret [] (RetRun.tmp RetRun.nil) ⟨_, rfl, .inl ⟨⟨k, hr, hlt, (fun ho => ho.2.1 (by omega))⟩, rfl⟩, rfl⟩ (Ent.pull_drop (is := [1]) rfl)
   ·
    refine RN.m rfl ?_
    refine RN.p rfl (p_eql rfl rfl rfl) ?_
    refine RN.m rfl ?_
    refine RN.split_dec 20 rfl (fun h20 => ?_) (fun h20 => ?_)
    ·
     refine RN.m rfl ?_
     refine RN.m rfl ?_
     refine RN.p rfl (by exact (p_slice_s_lo rfl Tryz.underlying9 rfl rfl (by omega))) ?_
     refine RN.C [] rfl rfl rfl rfl (c_call rfl rfl) (Has_spec (l.drop (posR l k)) FFFD) rfl ?_
     rintro _ _ ⟨rfl, rfl⟩
     refine RN.p rfl (by exact (p_not_dec rfl rfl)) ?_
     refine RN.pt rfl ?_
     refine RN.pf rfl ?_
     refine RN.nil ?_
     refine hK8 _ _ ?_
     refine T.cond_dec rfl (fun h27 => ?_) (fun h27 => ?_)
     ·
      refine T.seq fun K11 hK11 => ?_
      refine T.region (l := [0]) rfl ?_
      refine RN.a rfl ?_
      refine RN.nil ?_
      refine hK11 _ _ ?_
      refine T.ret ?_
      refine Post.block_r ?_
      refine Post.seq_r ?_
      refine Post.block_r ?_
      refine Post.seq_r ?_
      refine bodyQ_ret [] (RetRun.tmp RetRun.nil) ⟨_, rfl, .inl ⟨⟨k, hr, hlt, (fun ho => h27 (pre_no hlt (by omega) ho.2.2))⟩, rfl⟩, rfl⟩ (Ent.pull_drop (is := [1]) rfl)
     ·
      refine T.skip ?_
      refine ⟨k + 1, (have h2 := runs_step hr hlt ⟨by omega, by omega, fun e => by have h := pre_yes (Classical.not_not.1 h27); rw [e] at h; simp at h⟩; ⟨h2, posR_le h2⟩), (by have := dec_step hlt; show _ - (posR l k + _) < _ - posR l k; omega), (LiveIs.cons rfl (LiveIs.cons rfl LiveIs.nil)), Ent.refl _⟩
    ·
     refine RN.no0 rfl ?_
     refine RN.no0 rfl ?_
     refine RN.no0 rfl ?_
     refine RN.no0 rfl ?_
     refine RN.no0 rfl ?_
     refine RN.pf rfl ?_
     refine RN.pf rfl ?_
     refine RN.nil ?_
     refine hK8 _ _ ?_
     refine T.cond_f rfl ?_
     refine T.skip ?_
     refine ⟨k + 1, (have h2 := runs_step hr hlt ⟨by omega, by omega, fun e => h20 (by have : (dec l (posR l k)).1 = 65533 := congrArg Prod.fst e; omega)⟩; ⟨h2, posR_le h2⟩), (by have := dec_step hlt; show _ - (posR l k + _) < _ - posR l k; omega), (LiveIs.cons rfl (LiveIs.cons rfl LiveIs.nil)), Ent.refl _⟩
 ·
  refine RN.E rfl rfl rfl rfl (e_next_end rfl rfl (i := 0) rfl (by omega)) ?_
  rintro _ _ ⟨rfl, rfl⟩
  refine RN.p rfl (p_extract rfl rfl rfl) ?_
  refine RN.nil ?_
  refine hK5 _ _ ?_
  refine T.seq fun K12 hK12 => ?_
  refine T.cond_f rfl ?_
  refine T.exit ?_
  refine Post.seq_x ?_
  refine Post.seq_x ?_
  refine Post.block_hit ?_
  refine hK2 _ _ ?_
  refine T.seq fun K13 hK13 => ?_
  refine T.region (l := [0, 1, 2, 3, 4, 5, 6, 7, 8]) rfl ?_
  refine RN.m rfl ?_
  refine RN.p rfl (p_len_s rfl Tryz.underlying9 rfl) ?_
  refine RN.p rfl (p_geq rfl rfl rfl) ?_
  refine RN.m rfl ?_
  refine RN.split_dec 31 rfl (fun h31 => ?_) (fun h31 => ?_)
  ·
   refine RN.m rfl ?_
   refine RN.p rfl (p_len_s rfl Tryz.underlying9 rfl) ?_
   refine RN.p rfl (p_leq rfl rfl rfl) ?_
   refine RN.pt rfl ?_
   refine RN.a rfl ?_
   refine RN.nil ?_
   refine hK13 _ _ ?_
   refine T.ret ?_
   refine bodyQ_ret [] (RetRun.tmp RetRun.nil) ⟨_, rfl, .inr ⟨⟨k, hr, by omega⟩, decide_eq_decide.2 ⟨fun g => ⟨by omega, by omega⟩, fun g => by omega⟩⟩, rfl⟩ (Ent.pull_drop (is := [1]) rfl)
  ·
   refine RN.no0 rfl ?_
   refine RN.no0 rfl ?_
   refine RN.no0 rfl ?_
   refine RN.pf rfl ?_
   refine RN.a rfl ?_
   refine RN.nil ?_
   refine hK13 _ _ ?_
   refine T.ret ?_
   refine bodyQ_ret [] (RetRun.tmp RetRun.nil) ⟨_, rfl, .inr ⟨⟨k, hr, by omega⟩, (decide_eq_false (fun g => by omega)).symm⟩, rfl⟩ (Ent.pull_drop (is := [1]) rfl)

theorem vAcc_step {v0 : Nat} {s : List UInt8} {i : Nat} (h : 1 ≤ i) : vAcc v0 s i = 64 * vAcc v0 s (i - 1) + at0 s i - 128 := by
 obtain ⟨j, rfl⟩ := Nat.exists_eq_add_of_le' h
 rfl
theorem not_of_zero {s : List UInt8} {p v n : Nat} (hp : p < s.length) (h : (n = 0 ∧ ¬ okR s p) ∨ ((v, n) = dec s p ∧ dec s p ≠ (65533, 1))) (hn : n = 0) : ¬ okR s p := by
 rcases h with ⟨_, g⟩ | ⟨g, _⟩
 · exact g
 ·
  have := dec_step hp
  have : n = (dec s p).2 := congrArg Prod.snd g
  omega
theorem width_le {c n v0 : Nat} (h : widthOf c n v0) : 2 ≤ n ∧ n ≤ 4 ∧ v0 < 64 := by unfold widthOf at h; omega

theorem Rune_spec (l : List UInt8) : Ctr Tryz.prog 63 [strV l] [] (fun w Ps => ∃ v n, w = .tuple #[intV v, intV n] ∧ RuneQ l v n ∧ Ps = []) := by
 refine Ctr.of_body Tryz.func63 rfl (by kernel_rfl) Tryz.ntmps63 rfl rfl (fun Fr => ?_)
 refine T.seq fun K1 hK1 => ?_
 refine T.region (l := [0, 1]) rfl ?_
 refine RN.a rfl ?_
 refine RN.a rfl ?_
 refine RN.nil ?_
 refine hK1 _ _ ?_
 refine T.seq fun K2 hK2 => ?_
 refine T.seq fun K3 hK3 => ?_
 refine T.region (l := [0, 1, 2]) rfl ?_
 refine RN.m rfl ?_
 refine RN.p rfl (p_len_s rfl Tryz.underlying9 rfl) ?_
 refine RN.p rfl (p_eql rfl rfl rfl) ?_
 refine RN.nil ?_
 refine hK3 _ _ ?_
 refine T.cond_dec rfl (fun h11 => ?_) (fun h11 => ?_)
 ·
  refine T.seq fun K4 hK4 => ?_
  refine T.region (l := [0, 1]) rfl ?_
  refine RN.a rfl ?_
  refine RN.a rfl ?_
  refine RN.nil ?_
  refine hK4 _ _ ?_
  refine T.ret ?_
  refine Post.seq_r ?_
  obtain rfl : l = [] := List.eq_nil_of_length_eq_zero (by omega)
  refine bodyQ_ret [] (RetRun.tmp (RetRun.tmp RetRun.nil)) ⟨0, 0, rfl, rune_nil, rfl⟩ (Ent.refl _)
 ·
  have hl0 : 0 < l.length := by omega
  have e0 : at0 l 0 = l[0].toNat := at0_get hl0
  refine T.skip ?_
  refine hK2 _ _ ?_
  refine T.seq fun K5 hK5 => ?_
  refine T.region (l := [0, 1, 2, 3]) rfl ?_
  refine RN.m rfl ?_
  refine RN.p rfl (by exact (p_indexN_s (n := 0) rfl Tryz.underlying9 rfl rfl (List.getElem?_eq_getElem hl0))) ?_
  refine RN.p rfl (p_conv_i64 rfl Tryz.underlying5 Tryz.underlying3 rfl (by have := l[0].toNat_lt; omega)) ?_
  refine RN.a rfl ?_
  refine RN.nil ?_
  refine hK5 _ _ ?_
  refine T.seq fun K6 hK6 => ?_
  refine T.seq fun K7 hK7 => ?_
  refine T.region (l := [0, 1]) rfl ?_
  refine RN.m rfl ?_
  refine RN.p rfl (p_lss rfl rfl rfl) ?_
  refine RN.nil ?_
  refine hK7 _ _ ?_
  refine T.cond_dec rfl (fun h16 => ?_) (fun h16 => ?_)
  ·
   refine T.seq fun K8 hK8 => ?_
   refine T.region (l := [0, 1, 2]) rfl ?_
   refine RN.m rfl ?_
   refine RN.a rfl ?_
   refine RN.a rfl ?_
   refine RN.nil ?_
   refine hK8 _ _ ?_
   refine T.ret ?_
   refine Post.seq_r ?_
   refine bodyQ_ret [] (RetRun.tmp (RetRun.tmp RetRun.nil)) ⟨_, 1, rfl, rune_one (by omega) (by omega), rfl⟩ (Ent.refl _)
  ·
   refine T.skip ?_
   refine hK6 _ _ ?_
   refine T.seq fun K9 hK9 => ?_
   refine T.region (l := [0]) rfl ?_
   refine RN.a rfl ?_
   refine RN.nil ?_
   refine hK9 _ _ ?_
   refine T.seq fun K10 hK10 => ?_
   refine T.region (l := [0]) rfl ?_
   refine RN.a rfl ?_
   refine RN.nil ?_
   refine hK10 _ _ ?_
   refine T.cut (G := Nat × Nat) (fun ⟨n, v0⟩ => widthOf (at0 l 0) n v0) (fun ⟨n, v0⟩ => [(0, strV l), (5, intV n), (6, intV v0)]) (fun ⟨n, v0⟩ => [Fr]) ?_ ?_
   ·
    refine T.block ?_
    refine T.seq fun K12 hK12 => ?_
    refine T.region (l := [0, 1, 2, 3, 4, 5, 6]) rfl ?_
    refine RN.m rfl ?_
    refine RN.p rfl (p_geq rfl rfl rfl) ?_
    refine RN.m rfl ?_
    refine RN.split_dec 21 rfl (fun h21 => ?_) (fun h21 => ?_)
    ·
     refine RN.m rfl ?_
     refine RN.p rfl (p_lss rfl rfl rfl) ?_
     refine RN.pt rfl ?_
     refine RN.a rfl ?_
     refine RN.nil ?_
     refine hK12 _ _ ?_
     refine T.cond_dec rfl (fun h18 => ?_) (fun h18 => ?_)
     ·
      refine T.seq fun K13 hK13 => ?_
      refine T.region (l := [0]) rfl ?_
      refine RN.a rfl ?_
      refine RN.nil ?_
      refine hK13 _ _ ?_
      refine T.region (l := [0, 1, 2]) rfl ?_
      refine RN.m rfl ?_
      refine RN.p rfl (by exact (p_subN (b := 192) rfl rfl rfl (by omega))) ?_
      refine RN.a rfl ?_
      refine RN.nil ?_
      refine ⟨(2, l[0].toNat - 192), (by show widthOf (at0 l 0) 2 (l[0].toNat - 192); unfold widthOf; rw [e0]; omega), (LiveIs.cons rfl (LiveIs.cons rfl (LiveIs.cons rfl LiveIs.nil))), Ent.refl _⟩
     ·
      refine T.seq fun K14 hK14 => ?_
      refine T.region (l := [0, 1, 2, 3, 4, 5, 6]) rfl ?_
      refine RN.m rfl ?_
      refine RN.p rfl (p_geq rfl rfl rfl) ?_
      refine RN.m rfl ?_
      refine RN.split_dec 30 rfl (fun h30 => ?_) (fun h30 => ?_)
      ·
       refine RN.m rfl ?_
       refine RN.p rfl (p_lss rfl rfl rfl) ?_
       refine RN.pt rfl ?_
       refine RN.a rfl ?_
       refine RN.nil ?_
       refine hK14 _ _ ?_
       refine T.cond_dec rfl (fun h27 => ?_) (fun h27 => ?_)
       ·
        refine T.seq fun K15 hK15 => ?_
        refine T.region (l := [0]) rfl ?_
        refine RN.a rfl ?_
        refine RN.nil ?_
        refine hK15 _ _ ?_
        refine T.region (l := [0, 1, 2]) rfl ?_
        refine RN.m rfl ?_
        refine RN.p rfl (by exact (p_subN (b := 224) rfl rfl rfl (by omega))) ?_
        refine RN.a rfl ?_
        refine RN.nil ?_
        refine ⟨(3, l[0].toNat - 224), (by show widthOf (at0 l 0) 3 (l[0].toNat - 224); unfold widthOf; rw [e0]; omega), (LiveIs.cons rfl (LiveIs.cons rfl (LiveIs.cons rfl LiveIs.nil))), Ent.refl _⟩
       ·
        refine T.seq fun K16 hK16 => ?_
        refine T.region (l := [0, 1, 2, 3, 4, 5, 6]) rfl ?_
        refine RN.m rfl ?_
        refine RN.p rfl (p_geq rfl rfl rfl) ?_
        refine RN.m rfl ?_
        refine RN.split_dec 39 rfl (fun h39 => ?_) (fun h39 => ?_)
        ·
         refine RN.m rfl ?_
         refine RN.p rfl (p_lss rfl rfl rfl) ?_
         refine RN.pt rfl ?_
         refine RN.a rfl ?_
         refine RN.nil ?_
         refine hK16 _ _ ?_
         refine T.cond_dec rfl (fun h36 => ?_) (fun h36 => ?_)
         ·
          refine T.seq fun K17 hK17 => ?_
          refine T.region (l := [0]) rfl ?_
          refine RN.a rfl ?_
          refine RN.nil ?_
          refine hK17 _ _ ?_
          refine T.region (l := [0, 1, 2]) rfl ?_
          refine RN.m rfl ?_
          refine RN.p rfl (by exact (p_subN (b := 240) rfl rfl rfl (by omega))) ?_
          refine RN.a rfl ?_
          refine RN.nil ?_
          refine ⟨(4, l[0].toNat - 240), (by show widthOf (at0 l 0) 4 (l[0].toNat - 240); unfold widthOf; rw [e0]; omega), (LiveIs.cons rfl (LiveIs.cons rfl (LiveIs.cons rfl LiveIs.nil))), Ent.refl _⟩
         ·
          refine T.seq fun K18 hK18 => ?_
          refine T.region (l := [0, 1]) rfl ?_
          refine RN.a rfl ?_
          refine RN.a rfl ?_
          refine RN.nil ?_
          refine hK18 _ _ ?_
          refine T.ret ?_
          refine Post.block_r ?_
          refine Post.seq_r ?_
          refine bodyQ_ret [] (RetRun.tmp (RetRun.tmp RetRun.nil)) ⟨0, 0, rfl, (rune_none (by rw [e0]; omega) (by rw [e0]; omega) (by rw [e0]; omega) (by rw [e0]; omega)), rfl⟩ (Ent.refl _)
        ·
         refine RN.no0 rfl ?_
         refine RN.no0 rfl ?_
         refine RN.pf rfl ?_
         refine RN.a rfl ?_
         refine RN.nil ?_
         refine hK16 _ _ ?_
         refine T.cond_f rfl ?_
         refine T.seq fun K19 hK19 => ?_
         refine T.region (l := [0, 1]) rfl ?_
         refine RN.a rfl ?_
         refine RN.a rfl ?_
         refine RN.nil ?_
         refine hK19 _ _ ?_
         refine T.ret ?_
         refine Post.block_r ?_
         refine Post.seq_r ?_
         refine bodyQ_ret [] (RetRun.tmp (RetRun.tmp RetRun.nil)) ⟨0, 0, rfl, (rune_none (by rw [e0]; omega) (by rw [e0]; omega) (by rw [e0]; omega) (by rw [e0]; omega)), rfl⟩ (Ent.refl _)
      ·
       refine RN.no0 rfl ?_
       refine RN.no0 rfl ?_
       refine RN.pf rfl ?_
       refine RN.a rfl ?_
       refine RN.nil ?_
       refine hK14 _ _ ?_
       refine T.cond_f rfl ?_
       refine T.seq fun K20 hK20 => ?_
       refine T.region (l := [0, 1, 2, 3, 4, 5, 6]) rfl ?_
       refine RN.m rfl ?_
       refine RN.p rfl (p_geq rfl rfl rfl) ?_
       refine RN.m rfl ?_
       refine RN.split_dec 39 rfl (fun h39 => ?_) (fun h39 => ?_)
       ·
        refine RN.m rfl ?_
        refine RN.p rfl (p_lss rfl rfl rfl) ?_
        refine RN.pt rfl ?_
        refine RN.a rfl ?_
        refine RN.nil ?_
        refine hK20 _ _ ?_
        refine T.cond_dec rfl (fun h36 => ?_) (fun h36 => ?_)
        ·
         refine T.seq fun K21 hK21 => ?_
         refine T.region (l := [0]) rfl ?_
         refine RN.a rfl ?_
         refine RN.nil ?_
         refine hK21 _ _ ?_
         refine T.region (l := [0, 1, 2]) rfl ?_
         refine RN.m rfl ?_
         refine RN.p rfl (by exact (p_subN (b := 240) rfl rfl rfl (by omega))) ?_
         refine RN.a rfl ?_
         refine RN.nil ?_
         refine ⟨(4, l[0].toNat - 240), (by show widthOf (at0 l 0) 4 (l[0].toNat - 240); unfold widthOf; rw [e0]; omega), (LiveIs.cons rfl (LiveIs.cons rfl (LiveIs.cons rfl LiveIs.nil))), Ent.refl _⟩
        ·
         refine T.seq fun K22 hK22 => ?_
         refine T.region (l := [0, 1]) rfl ?_
         refine RN.a rfl ?_
         refine RN.a rfl ?_
         refine RN.nil ?_
         refine hK22 _ _ ?_
         refine T.ret ?_
         refine Post.block_r ?_
         refine Post.seq_r ?_
         refine bodyQ_ret [] (RetRun.tmp (RetRun.tmp RetRun.nil)) ⟨0, 0, rfl, (rune_none (by rw [e0]; omega) (by rw [e0]; omega) (by rw [e0]; omega) (by rw [e0]; omega)), rfl⟩ (Ent.refl _)
       ·
        refine RN.no0 rfl ?_
        refine RN.no0 rfl ?_
        refine RN.pf rfl ?_
        refine RN.a rfl ?_
        refine RN.nil ?_
        refine hK20 _ _ ?_
        refine T.cond_f rfl ?_
        refine T.seq fun K23 hK23 => ?_
        refine T.region (l := [0, 1]) rfl ?_
        refine RN.a rfl ?_
        refine RN.a rfl ?_
        refine RN.nil ?_
        refine hK23 _ _ ?_
        refine T.ret ?_
        refine Post.block_r ?_
        refine Post.seq_r ?_
        refine bodyQ_ret [] (RetRun.tmp (RetRun.tmp RetRun.nil)) ⟨0, 0, rfl, (rune_none (by rw [e0]; omega) (by rw [e0]; omega) (by rw [e0]; omega) (by rw [e0]; omega)), rfl⟩ (Ent.refl _)
    ·
     refine RN.no0 rfl ?_
     refine RN.no0 rfl ?_
     refine RN.pf rfl ?_
     refine RN.a rfl ?_
     refine RN.nil ?_
     refine hK12 _ _ ?_
     refine T.cond_f rfl ?_
     refine T.seq fun K24 hK24 => ?_
     refine T.region (l := [0, 1, 2, 3, 4, 5, 6]) rfl ?_
     refine RN.m rfl ?_
     refine RN.p rfl (p_geq rfl rfl rfl) ?_
     refine RN.m rfl ?_
     refine RN.split_dec 30 rfl (fun h30 => ?_) (fun h30 => ?_)
     ·
      refine RN.m rfl ?_
      refine RN.p rfl (p_lss rfl rfl rfl) ?_
      refine RN.pt rfl ?_
      refine RN.a rfl ?_
      refine RN.nil ?_
      refine hK24 _ _ ?_
      refine T.cond_dec rfl (fun h27 => ?_) (fun h27 => ?_)
      ·
       refine T.seq fun K25 hK25 => ?_
       refine T.region (l := [0]) rfl ?_
       refine RN.a rfl ?_
       refine RN.nil ?_
       refine hK25 _ _ ?_
       refine T.region (l := [0, 1, 2]) rfl ?_
       refine RN.m rfl ?_
       refine RN.p rfl (by exact (p_subN (b := 224) rfl rfl rfl (by omega))) ?_
       refine RN.a rfl ?_
       refine RN.nil ?_
       refine ⟨(3, l[0].toNat - 224), (by show widthOf (at0 l 0) 3 (l[0].toNat - 224); unfold widthOf; rw [e0]; omega), (LiveIs.cons rfl (LiveIs.cons rfl (LiveIs.cons rfl LiveIs.nil))), Ent.refl _⟩
      ·
       refine T.seq fun K26 hK26 => ?_
       refine T.region (l := [0, 1, 2, 3, 4, 5, 6]) rfl ?_
       refine RN.m rfl ?_
       refine RN.p rfl (p_geq rfl rfl rfl) ?_
       refine RN.m rfl ?_
       refine RN.split_dec 39 rfl (fun h39 => ?_) (fun h39 => ?_)
       ·
        refine RN.m rfl ?_
        refine RN.p rfl (p_lss rfl rfl rfl) ?_
        refine RN.pt rfl ?_
        refine RN.a rfl ?_
        refine RN.nil ?_
        refine hK26 _ _ ?_
        refine T.cond_dec rfl (fun h36 => ?_) (fun h36 => ?_)
        ·
         refine T.seq fun K27 hK27 => ?_
         refine T.region (l := [0]) rfl ?_
         refine RN.a rfl ?_
         refine RN.nil ?_
         refine hK27 _ _ ?_
         refine T.region (l := [0, 1, 2]) rfl ?_
         refine RN.m rfl ?_
         refine RN.p rfl (by exact (p_subN (b := 240) rfl rfl rfl (by omega))) ?_
         refine RN.a rfl ?_
         refine RN.nil ?_
         refine ⟨(4, l[0].toNat - 240), (by show widthOf (at0 l 0) 4 (l[0].toNat - 240); unfold widthOf; rw [e0]; omega), (LiveIs.cons rfl (LiveIs.cons rfl (LiveIs.cons rfl LiveIs.nil))), Ent.refl _⟩
        ·
         refine T.seq fun K28 hK28 => ?_
         refine T.region (l := [0, 1]) rfl ?_
         refine RN.a rfl ?_
         refine RN.a rfl ?_
         refine RN.nil ?_
         refine hK28 _ _ ?_
         refine T.ret ?_
         refine Post.block_r ?_
         refine Post.seq_r ?_
         refine bodyQ_ret [] (RetRun.tmp (RetRun.tmp RetRun.nil)) ⟨0, 0, rfl, (rune_none (by rw [e0]; omega) (by rw [e0]; omega) (by rw [e0]; omega) (by rw [e0]; omega)), rfl⟩ (Ent.refl _)
       ·
        refine RN.no0 rfl ?_
        refine RN.no0 rfl ?_
        refine RN.pf rfl ?_
        refine RN.a rfl ?_
        refine RN.nil ?_
        refine hK26 _ _ ?_
        refine T.cond_f rfl ?_
        refine T.seq fun K29 hK29 => ?_
        refine T.region (l := [0, 1]) rfl ?_
        refine RN.a rfl ?_
        refine RN.a rfl ?_
        refine RN.nil ?_
        refine hK29 _ _ ?_
        refine T.ret ?_
        refine Post.block_r ?_
        refine Post.seq_r ?_
        refine bodyQ_ret [] (RetRun.tmp (RetRun.tmp RetRun.nil)) ⟨0, 0, rfl, (rune_none (by rw [e0]; omega) (by rw [e0]; omega) (by rw [e0]; omega) (by rw [e0]; omega)), rfl⟩ (Ent.refl _)
     ·
      refine RN.no0 rfl ?_
      refine RN.no0 rfl ?_
      refine RN.pf rfl ?_
      refine RN.a rfl ?_
      refine RN.nil ?_
      refine hK24 _ _ ?_
      refine T.cond_f rfl ?_
      refine T.seq fun K30 hK30 => ?_
      refine T.region (l := [0, 1, 2, 3, 4, 5, 6]) rfl ?_
      refine RN.m rfl ?_
      refine RN.p rfl (p_geq rfl rfl rfl) ?_
      refine RN.m rfl ?_
      refine RN.split_dec 39 rfl (fun h39 => ?_) (fun h39 => ?_)
      ·
       refine RN.m rfl ?_
       refine RN.p rfl (p_lss rfl rfl rfl) ?_
       refine RN.pt rfl ?_
       refine RN.a rfl ?_
       refine RN.nil ?_
       refine hK30 _ _ ?_
       refine T.cond_dec rfl (fun h36 => ?_) (fun h36 => ?_)
       ·
        refine T.seq fun K31 hK31 => ?_
        refine T.region (l := [0]) rfl ?_
        refine RN.a rfl ?_
        refine RN.nil ?_
        refine hK31 _ _ ?_
        refine T.region (l := [0, 1, 2]) rfl ?_
        refine RN.m rfl ?_
        refine RN.p rfl (by exact (p_subN (b := 240) rfl rfl rfl (by omega))) ?_
        refine RN.a rfl ?_
        refine RN.nil ?_
        refine ⟨(4, l[0].toNat - 240), (by show widthOf (at0 l 0) 4 (l[0].toNat - 240); unfold widthOf; rw [e0]; omega), (LiveIs.cons rfl (LiveIs.cons rfl (LiveIs.cons rfl LiveIs.nil))), Ent.refl _⟩
       ·
        refine T.seq fun K32 hK32 => ?_
        refine T.region (l := [0, 1]) rfl ?_
        refine RN.a rfl ?_
        refine RN.a rfl ?_
        refine RN.nil ?_
        refine hK32 _ _ ?_
        refine T.ret ?_
        refine Post.block_r ?_
        refine Post.seq_r ?_
        refine bodyQ_ret [] (RetRun.tmp (RetRun.tmp RetRun.nil)) ⟨0, 0, rfl, (rune_none (by rw [e0]; omega) (by rw [e0]; omega) (by rw [e0]; omega) (by rw [e0]; omega)), rfl⟩ (Ent.refl _)
      ·
       refine RN.no0 rfl ?_
       refine RN.no0 rfl ?_
       refine RN.pf rfl ?_
       refine RN.a rfl ?_
       refine RN.nil ?_
       refine hK30 _ _ ?_
       refine T.cond_f rfl ?_
       refine T.seq fun K33 hK33 => ?_
       refine T.region (l := [0, 1]) rfl ?_
       refine RN.a rfl ?_
       refine RN.a rfl ?_
       refine RN.nil ?_
       refine hK33 _ _ ?_
       refine T.ret ?_
       refine Post.block_r ?_
       refine Post.seq_r ?_
       refine bodyQ_ret [] (RetRun.tmp (RetRun.tmp RetRun.nil)) ⟨0, 0, rfl, (rune_none (by rw [e0]; omega) (by rw [e0]; omega) (by rw [e0]; omega) (by rw [e0]; omega)), rfl⟩ (Ent.refl _)
   ·
    rintro ⟨n, v0⟩ e11 hw
    dsimp only at hw ⊢
    obtain ⟨hn2, hn4, hv0⟩ := width_le hw
    refine T.seq fun K34 hK34 => ?_
    refine T.seq fun K35 hK35 => ?_
    refine T.region (l := [0, 1, 2, 3]) rfl ?_
    refine RN.m rfl ?_
    refine RN.p rfl (p_len_s rfl Tryz.underlying9 rfl) ?_
    refine RN.m rfl ?_
    refine RN.p rfl (p_lss rfl rfl rfl) ?_
    refine RN.nil ?_
    refine hK35 _ _ ?_
    refine T.cond_dec rfl (fun h48 => ?_) (fun h48 => ?_)
    ·
     refine T.seq fun K36 hK36 => ?_
     refine T.region (l := [0, 1]) rfl ?_
     refine RN.a rfl ?_
     refine RN.a rfl ?_
     refine RN.nil ?_
     refine hK36 _ _ ?_
     refine T.ret ?_
     refine Post.seq_r ?_
     refine bodyQ_ret [] (RetRun.tmp (RetRun.tmp RetRun.nil)) ⟨0, 0, rfl, (rune_cut hw (k := n - 1) (by omega) (by omega) (fun g => by omega)), rfl⟩ (Ent.refl _)
    ·
     refine T.skip ?_
     refine hK34 _ _ ?_
     refine T.seq fun K37 hK37 => ?_
     refine T.seq fun K38 hK38 => ?_
     refine T.region (l := [0]) rfl ?_
     refine RN.a rfl ?_
     refine RN.nil ?_
     refine hK38 _ _ ?_
     refine T.block ?_
     refine T.loop (G := Nat) (fun i => 1 ≤ i ∧ i ≤ n ∧ Conts l i ∧ (i = 1 ∧ vAcc v0 l (i - 1) < 64 ∨ i = 2 ∧ vAcc v0 l (i - 1) < 4096 ∨ i = 3 ∧ vAcc v0 l (i - 1) < 262144 ∨ i = 4 ∧ vAcc v0 l (i - 1) < 16777216)) (fun i => [(0, strV l), (5, intV n), (6, intV (vAcc v0 l (i - 1))), (7, intV i)]) (fun i => [Fr]) (fun i => n - i) 1 ⟨Nat.le_refl _, by omega, fun k h1 h2 => by omega, .inl ⟨rfl, hv0⟩⟩ (LiveIs.cons rfl (LiveIs.cons rfl (LiveIs.cons rfl (LiveIs.cons rfl LiveIs.nil)))) (Ent.refl _) ?_
     rintro i e39 ⟨hi1, hin, hc, hb4⟩
     refine T.seq fun K40 hK40 => ?_
     refine T.seq fun K41 hK41 => ?_
     refine T.region (l := [0, 1, 2]) rfl ?_
     refine RN.m rfl ?_
     refine RN.m rfl ?_
     refine RN.p rfl (p_lss rfl rfl rfl) ?_
     refine RN.nil ?_
     refine hK41 _ _ ?_
     refine T.cond_dec rfl (fun h51 => ?_) (fun h51 => ?_)
     ·
      have hil : i < l.length := by omega
      have ei : at0 l i = l[i].toNat := at0_get hil
      have hdl := l[i].toNat_lt
      refine T.skip ?_
      refine hK40 _ _ ?_
      refine T.seq fun K42 hK42 => ?_
      refine T.block ?_
      refine T.seq fun K43 hK43 => ?_
      refine T.region (l := [0, 1, 2, 3, 4]) rfl ?_
      refine RN.m rfl ?_
      refine RN.m rfl ?_
      refine RN.p rfl (by exact (p_indexN_s rfl Tryz.underlying9 rfl rfl (List.getElem?_eq_getElem hil))) ?_
      refine RN.p rfl (p_conv_i64 rfl Tryz.underlying5 Tryz.underlying3 rfl (by omega)) ?_
      refine RN.a rfl ?_
      refine RN.nil ?_
      refine hK43 _ _ ?_
      refine T.seq fun K44 hK44 => ?_
      refine T.seq fun K45 hK45 => ?_
      refine T.region (l := [0, 1, 2, 3, 4, 5]) rfl ?_
      refine RN.m rfl ?_
      refine RN.p rfl (p_lss rfl rfl rfl) ?_
      refine RN.m rfl ?_
      refine RN.split_dec 60 rfl (fun h60 => ?_) (fun h60 => ?_)
      ·
       refine RN.no0 rfl ?_
       refine RN.no0 rfl ?_
       refine RN.pt rfl ?_
       refine RN.nil ?_
       refine hK45 _ _ ?_
       refine T.cond_t rfl ?_
       refine T.seq fun K46 hK46 => ?_
       refine T.region (l := [0, 1]) rfl ?_
       refine RN.a rfl ?_
       refine RN.a rfl ?_
       refine RN.nil ?_
       refine hK46 _ _ ?_
       refine T.ret ?_
       refine Post.seq_r ?_
       refine Post.block_r ?_
       refine Post.seq_r ?_
       refine Post.seq_r ?_
       refine Post.block_r ?_
       refine Post.seq_r ?_
       refine bodyQ_ret [] (RetRun.tmp (RetRun.tmp RetRun.nil)) ⟨0, 0, rfl, (rune_cut hw (k := i) hi1 (by omega) (fun g => by rw [ei] at g; omega)), rfl⟩ (Ent.refl _)
      ·
       refine RN.m rfl ?_
       refine RN.p rfl (p_gtr rfl rfl rfl) ?_
       refine RN.pf rfl ?_
       refine RN.nil ?_
       refine hK45 _ _ ?_
       refine T.cond_dec rfl (fun h63 => ?_) (fun h63 => ?_)
       ·
        refine T.seq fun K47 hK47 => ?_
        refine T.region (l := [0, 1]) rfl ?_
        refine RN.a rfl ?_
        refine RN.a rfl ?_
        refine RN.nil ?_
        refine hK47 _ _ ?_
        refine T.ret ?_
        refine Post.seq_r ?_
        refine Post.block_r ?_
        refine Post.seq_r ?_
        refine Post.seq_r ?_
        refine Post.block_r ?_
        refine Post.seq_r ?_
        refine bodyQ_ret [] (RetRun.tmp (RetRun.tmp RetRun.nil)) ⟨0, 0, rfl, (rune_cut hw (k := i) hi1 (by omega) (fun g => by rw [ei] at g; omega)), rfl⟩ (Ent.refl _)
       ·
        refine T.skip ?_
        refine hK44 _ _ ?_
        refine T.region (l := [0, 1, 2, 3, 4, 5]) rfl ?_
        refine RN.m rfl ?_
        refine RN.p rfl (by exact (p_mulN (a := 64) rfl rfl rfl (by omega))) ?_
        refine RN.m rfl ?_
        refine RN.p rfl (by exact (p_addN rfl rfl rfl (by omega))) ?_
        refine RN.p rfl (by exact (p_subN (b := 128) rfl rfl rfl (by omega))) ?_
        refine RN.a rfl ?_
        refine RN.nil ?_
        refine hK42 _ _ ?_
        refine T.region (l := [0, 1, 2]) rfl ?_
        refine RN.m rfl ?_
        refine RN.p rfl (by exact (p_addN (b := 1) rfl rfl rfl (by omega))) ?_
        refine RN.a rfl ?_
        refine RN.nil ?_
        refine ⟨i + 1, ⟨by omega, by omega, fun k k1 k2 => by
         by_cases e : k = i
         · subst e; omega
         · exact hc k k1 (by omega), by
         rw [Nat.add_sub_cancel, vAcc_step hi1, ei]; omega⟩, (by show _ - (i + 1) < _ - i; omega), (LiveIs.cons rfl (LiveIs.cons rfl (LiveIs.cons (congrArg intV (by rw [Nat.add_sub_cancel, vAcc_step hi1, ei])) (LiveIs.cons rfl LiveIs.nil)))), Ent.refl _⟩
     ·
      have ein : i = n := by omega
      subst ein
      refine T.exit ?_
      refine Post.seq_x ?_
      refine Post.seq_x ?_
      refine Post.block_hit ?_
      refine hK37 _ _ ?_
      refine T.seq fun K48 hK48 => ?_
      refine T.seq fun K49 hK49 => ?_
      refine T.region (l := [0, 1, 2, 3, 4, 5, 6, 7, 8, 9, 10, 11, 12, 13, 14, 15, 16, 17, 18, 19, 20, 21, 22, 23, 24, 25]) rfl ?_
      refine RN.m rfl ?_
      refine RN.p rfl (p_eql rfl rfl rfl) ?_
      refine RN.m rfl ?_
      refine RN.split_dec 71 rfl (fun h71 => ?_) (fun h71 => ?_)
      ·
       refine RN.m rfl ?_
       refine RN.p rfl (p_lss rfl rfl rfl) ?_
       refine RN.m rfl ?_
       refine RN.split_dec 74 rfl (fun h74 => ?_) (fun h74 => ?_)
       ·
        refine RN.no0 rfl ?_
        refine RN.no0 rfl ?_
        refine RN.no0 rfl ?_
        refine RN.no0 rfl ?_
        refine RN.no0 rfl ?_
        refine RN.no0 rfl ?_
        refine RN.pt rfl ?_
        refine RN.pt rfl ?_
        refine RN.m rfl ?_
        refine RN.no0 rfl ?_
        refine RN.no0 rfl ?_
        refine RN.no0 rfl ?_
        refine RN.no0 rfl ?_
        refine RN.no0 rfl ?_
        refine RN.no0 rfl ?_
        refine RN.no0 rfl ?_
        refine RN.no0 rfl ?_
        refine RN.no0 rfl ?_
        refine RN.no0 rfl ?_
        refine RN.pt rfl ?_
        refine RN.nil ?_
        refine hK49 _ _ ?_
        refine T.cond_t rfl ?_
        refine T.seq fun K50 hK50 => ?_
        refine T.region (l := [0, 1]) rfl ?_
        refine RN.a rfl ?_
        refine RN.a rfl ?_
        refine RN.nil ?_
        refine hK50 _ _ ?_
        refine T.ret ?_
        refine Post.seq_r ?_
        refine bodyQ_ret [] (RetRun.tmp (RetRun.tmp RetRun.nil)) ⟨0, 0, rfl, ((rune_all hw (by omega) hc).1 (by omega)), rfl⟩ (Ent.refl _)
       ·
        refine RN.m rfl ?_
        refine RN.p rfl (p_geq rfl rfl rfl) ?_
        refine RN.m rfl ?_
        refine RN.split_dec 77 rfl (fun h77 => ?_) (fun h77 => ?_)
        ·
         refine RN.m rfl ?_
         refine RN.p rfl (p_lss rfl rfl rfl) ?_
         refine RN.pt rfl ?_
         refine RN.pf rfl ?_
         refine RN.pt rfl ?_
         refine RN.m rfl ?_
         refine RN.split_dec 83 rfl (fun h83 => ?_) (fun h83 => ?_)
         ·
          refine RN.no0 rfl ?_
          refine RN.no0 rfl ?_
          refine RN.no0 rfl ?_
          refine RN.no0 rfl ?_
          refine RN.no0 rfl ?_
          refine RN.no0 rfl ?_
          refine RN.no0 rfl ?_
          refine RN.no0 rfl ?_
          refine RN.no0 rfl ?_
          refine RN.no0 rfl ?_
          refine RN.pt rfl ?_
          refine RN.nil ?_
          refine hK49 _ _ ?_
          refine T.cond_t rfl ?_
          refine T.seq fun K51 hK51 => ?_
          refine T.region (l := [0, 1]) rfl ?_
          refine RN.a rfl ?_
          refine RN.a rfl ?_
          refine RN.nil ?_
          refine hK51 _ _ ?_
          refine T.ret ?_
          refine Post.seq_r ?_
          refine bodyQ_ret [] (RetRun.tmp (RetRun.tmp RetRun.nil)) ⟨0, 0, rfl, ((rune_all hw (by omega) hc).1 (by omega)), rfl⟩ (Ent.refl _)
         ·
          refine RN.m rfl ?_
          refine RN.p rfl (p_eql rfl rfl rfl) ?_
          refine RN.m rfl ?_
          refine RN.split_dec 86 rfl (fun h86 => ?_) (fun h86 => ?_)
          ·
           refine RN.m rfl ?_
           refine RN.p rfl (p_lss rfl rfl rfl) ?_
           refine RN.m rfl ?_
           refine RN.split_dec 89 rfl (fun h89 => ?_) (fun h89 => ?_)
           ·
            refine RN.no0 rfl ?_
            refine RN.no0 rfl ?_
            refine RN.pt rfl ?_
            refine RN.pt rfl ?_
            refine RN.pf rfl ?_
            refine RN.nil ?_
            refine hK49 _ _ ?_
            refine T.cond_t rfl ?_
            refine T.seq fun K52 hK52 => ?_
            refine T.region (l := [0, 1]) rfl ?_
            refine RN.a rfl ?_
            refine RN.a rfl ?_
            refine RN.nil ?_
            refine hK52 _ _ ?_
            refine T.ret ?_
            refine Post.seq_r ?_
            refine bodyQ_ret [] (RetRun.tmp (RetRun.tmp RetRun.nil)) ⟨0, 0, rfl, ((rune_all hw (by omega) hc).1 (by omega)), rfl⟩ (Ent.refl _)
           ·
            refine RN.m rfl ?_
            refine RN.p rfl (p_gtr rfl rfl rfl) ?_
            refine RN.pf rfl ?_
            refine RN.pt rfl ?_
            refine RN.pf rfl ?_
            refine RN.nil ?_
            refine hK49 _ _ ?_
            refine T.cond_dec rfl (fun h94 => ?_) (fun h94 => ?_)
            ·
             refine T.seq fun K53 hK53 => ?_
             refine T.region (l := [0, 1]) rfl ?_
             refine RN.a rfl ?_
             refine RN.a rfl ?_
             refine RN.nil ?_
             refine hK53 _ _ ?_
             refine T.ret ?_
             refine Post.seq_r ?_
             refine bodyQ_ret [] (RetRun.tmp (RetRun.tmp RetRun.nil)) ⟨0, 0, rfl, ((rune_all hw (by omega) hc).1 (by omega)), rfl⟩ (Ent.refl _)
            ·
             refine T.skip ?_
             refine hK48 _ _ ?_
             refine T.seq fun K54 hK54 => ?_
             refine T.region (l := [0, 1, 2, 3]) rfl ?_
             refine RN.m rfl ?_
             refine RN.m rfl ?_
             refine RN.a rfl ?_
             refine RN.a rfl ?_
             refine RN.nil ?_
             refine hK54 _ _ ?_
             refine T.ret ?_
             refine bodyQ_ret [] (RetRun.tmp (RetRun.tmp RetRun.nil)) ⟨_, _, rfl, (rune_all hw (by omega) hc).2 (by omega), rfl⟩ (Ent.refl _)
          ·
           refine RN.no0 rfl ?_
           refine RN.no0 rfl ?_
           refine RN.no0 rfl ?_
           refine RN.no0 rfl ?_
           refine RN.no0 rfl ?_
           refine RN.no0 rfl ?_
           refine RN.pf rfl ?_
           refine RN.pf rfl ?_
           refine RN.nil ?_
           refine hK49 _ _ ?_
           refine T.cond_f rfl ?_
           refine T.skip ?_
           refine hK48 _ _ ?_
           refine T.seq fun K55 hK55 => ?_
           refine T.region (l := [0, 1, 2, 3]) rfl ?_
           refine RN.m rfl ?_
           refine RN.m rfl ?_
           refine RN.a rfl ?_
           refine RN.a rfl ?_
           refine RN.nil ?_
           refine hK55 _ _ ?_
           refine T.ret ?_
           refine bodyQ_ret [] (RetRun.tmp (RetRun.tmp RetRun.nil)) ⟨_, _, rfl, (rune_all hw (by omega) hc).2 (by omega), rfl⟩ (Ent.refl _)
        ·
         refine RN.no0 rfl ?_
         refine RN.no0 rfl ?_
         refine RN.pf rfl ?_
         refine RN.pf rfl ?_
         refine RN.pt rfl ?_
         refine RN.m rfl ?_
         refine RN.m rfl ?_
         refine RN.p rfl (p_eql rfl rfl rfl) ?_
         refine RN.m rfl ?_
         refine RN.split_dec 86 rfl (fun h86 => ?_) (fun h86 => ?_)
         ·
          refine RN.m rfl ?_
          refine RN.p rfl (p_lss rfl rfl rfl) ?_
          refine RN.m rfl ?_
          refine RN.split_dec 89 rfl (fun h89 => ?_) (fun h89 => ?_)
          ·
           refine RN.no0 rfl ?_
           refine RN.no0 rfl ?_
           refine RN.pt rfl ?_
           refine RN.pt rfl ?_
           refine RN.pf rfl ?_
           refine RN.nil ?_
           refine hK49 _ _ ?_
           refine T.cond_t rfl ?_
           refine T.seq fun K56 hK56 => ?_
           refine T.region (l := [0, 1]) rfl ?_
           refine RN.a rfl ?_
           refine RN.a rfl ?_
           refine RN.nil ?_
           refine hK56 _ _ ?_
           refine T.ret ?_
           refine Post.seq_r ?_
           refine bodyQ_ret [] (RetRun.tmp (RetRun.tmp RetRun.nil)) ⟨0, 0, rfl, ((rune_all hw (by omega) hc).1 (by omega)), rfl⟩ (Ent.refl _)
          ·
           refine RN.m rfl ?_
           refine RN.p rfl (p_gtr rfl rfl rfl) ?_
           refine RN.pf rfl ?_
           refine RN.pt rfl ?_
           refine RN.pf rfl ?_
           refine RN.nil ?_
           refine hK49 _ _ ?_
           refine T.cond_dec rfl (fun h94 => ?_) (fun h94 => ?_)
           ·
            refine T.seq fun K57 hK57 => ?_
            refine T.region (l := [0, 1]) rfl ?_
            refine RN.a rfl ?_
            refine RN.a rfl ?_
            refine RN.nil ?_
            refine hK57 _ _ ?_
            refine T.ret ?_
            refine Post.seq_r ?_
            refine bodyQ_ret [] (RetRun.tmp (RetRun.tmp RetRun.nil)) ⟨0, 0, rfl, ((rune_all hw (by omega) hc).1 (by omega)), rfl⟩ (Ent.refl _)
           ·
            refine T.skip ?_
            refine hK48 _ _ ?_
            refine T.seq fun K58 hK58 => ?_
            refine T.region (l := [0, 1, 2, 3]) rfl ?_
            refine RN.m rfl ?_
            refine RN.m rfl ?_
            refine RN.a rfl ?_
            refine RN.a rfl ?_
            refine RN.nil ?_
            refine hK58 _ _ ?_
            refine T.ret ?_
            refine bodyQ_ret [] (RetRun.tmp (RetRun.tmp RetRun.nil)) ⟨_, _, rfl, (rune_all hw (by omega) hc).2 (by omega), rfl⟩ (Ent.refl _)
         ·
          refine RN.no0 rfl ?_
          refine RN.no0 rfl ?_
          refine RN.no0 rfl ?_
          refine RN.no0 rfl ?_
          refine RN.no0 rfl ?_
          refine RN.no0 rfl ?_
          refine RN.pf rfl ?_
          refine RN.pf rfl ?_
          refine RN.nil ?_
          refine hK49 _ _ ?_
          refine T.cond_f rfl ?_
          refine T.skip ?_
          refine hK48 _ _ ?_
          refine T.seq fun K59 hK59 => ?_
          refine T.region (l := [0, 1, 2, 3]) rfl ?_
          refine RN.m rfl ?_
          refine RN.m rfl ?_
          refine RN.a rfl ?_
          refine RN.a rfl ?_
          refine RN.nil ?_
          refine hK59 _ _ ?_
          refine T.ret ?_
          refine bodyQ_ret [] (RetRun.tmp (RetRun.tmp RetRun.nil)) ⟨_, _, rfl, (rune_all hw (by omega) hc).2 (by omega), rfl⟩ (Ent.refl _)
      ·
       refine RN.no0 rfl ?_
       refine RN.no0 rfl ?_
       refine RN.no0 rfl ?_
       refine RN.no0 rfl ?_
       refine RN.no0 rfl ?_
       refine RN.no0 rfl ?_
       refine RN.no0 rfl ?_
       refine RN.no0 rfl ?_
       refine RN.no0 rfl ?_
       refine RN.no0 rfl ?_
       refine RN.pf rfl ?_
       refine RN.m rfl ?_
       refine RN.m rfl ?_
       refine RN.p rfl (p_eql rfl rfl rfl) ?_
       refine RN.m rfl ?_
       refine RN.split_dec 86 rfl (fun h86 => ?_) (fun h86 => ?_)
       ·
        refine RN.m rfl ?_
        refine RN.p rfl (p_lss rfl rfl rfl) ?_
        refine RN.m rfl ?_
        refine RN.split_dec 89 rfl (fun h89 => ?_) (fun h89 => ?_)
        ·
         refine RN.no0 rfl ?_
         refine RN.no0 rfl ?_
         refine RN.pt rfl ?_
         refine RN.pt rfl ?_
         refine RN.pf rfl ?_
         refine RN.nil ?_
         refine hK49 _ _ ?_
         refine T.cond_t rfl ?_
         refine T.seq fun K60 hK60 => ?_
         refine T.region (l := [0, 1]) rfl ?_
         refine RN.a rfl ?_
         refine RN.a rfl ?_
         refine RN.nil ?_
         refine hK60 _ _ ?_
         refine T.ret ?_
         refine Post.seq_r ?_
         refine bodyQ_ret [] (RetRun.tmp (RetRun.tmp RetRun.nil)) ⟨0, 0, rfl, ((rune_all hw (by omega) hc).1 (by omega)), rfl⟩ (Ent.refl _)
        ·
         refine RN.m rfl ?_
         refine RN.p rfl (p_gtr rfl rfl rfl) ?_
         refine RN.pf rfl ?_
         refine RN.pt rfl ?_
         refine RN.pf rfl ?_
         refine RN.nil ?_
         refine hK49 _ _ ?_
         refine T.cond_dec rfl (fun h94 => ?_) (fun h94 => ?_)
         ·
          refine T.seq fun K61 hK61 => ?_
          refine T.region (l := [0, 1]) rfl ?_
          refine RN.a rfl ?_
          refine RN.a rfl ?_
          refine RN.nil ?_
          refine hK61 _ _ ?_
          refine T.ret ?_
          refine Post.seq_r ?_
          refine bodyQ_ret [] (RetRun.tmp (RetRun.tmp RetRun.nil)) ⟨0, 0, rfl, ((rune_all hw (by omega) hc).1 (by omega)), rfl⟩ (Ent.refl _)
         ·
          refine T.skip ?_
          refine hK48 _ _ ?_
          refine T.seq fun K62 hK62 => ?_
          refine T.region (l := [0, 1, 2, 3]) rfl ?_
          refine RN.m rfl ?_
          refine RN.m rfl ?_
          refine RN.a rfl ?_
          refine RN.a rfl ?_
          refine RN.nil ?_
          refine hK62 _ _ ?_
          refine T.ret ?_
          refine bodyQ_ret [] (RetRun.tmp (RetRun.tmp RetRun.nil)) ⟨_, _, rfl, (rune_all hw (by omega) hc).2 (by omega), rfl⟩ (Ent.refl _)
       ·
        refine RN.no0 rfl ?_
        refine RN.no0 rfl ?_
        refine RN.no0 rfl ?_
        refine RN.no0 rfl ?_
        refine RN.no0 rfl ?_
        refine RN.no0 rfl ?_
        refine RN.pf rfl ?_
        refine RN.pf rfl ?_
        refine RN.nil ?_
        refine hK49 _ _ ?_
        refine T.cond_f rfl ?_
        refine T.skip ?_
        refine hK48 _ _ ?_
        refine T.seq fun K63 hK63 => ?_
        refine T.region (l := [0, 1, 2, 3]) rfl ?_
        refine RN.m rfl ?_
        refine RN.m rfl ?_
        refine RN.a rfl ?_
        refine RN.a rfl ?_
        refine RN.nil ?_
        refine hK63 _ _ ?_
        refine T.ret ?_
        refine bodyQ_ret [] (RetRun.tmp (RetRun.tmp RetRun.nil)) ⟨_, _, rfl, (rune_all hw (by omega) hc).2 (by omega), rfl⟩ (Ent.refl _)

theorem RGood_spec (l : List UInt8) : Ctr Tryz.prog 54 [strV l] [] (fun w Ps => ∃ r, w = .bool r ∧ GoodQ l r ∧ Ps = []) := by
 refine Ctr.of_body Tryz.func54 rfl (by kernel_rfl) Tryz.ntmps54 rfl rfl (fun Fr => ?_)
 refine T.seq fun K1 hK1 => ?_
 refine T.region (l := [0]) rfl ?_
 refine RN.a rfl ?_
 refine RN.nil ?_
 refine hK1 _ _ ?_
 refine T.seq fun K2 hK2 => ?_
 refine T.region (l := [0, 1]) rfl ?_
 refine RN.m rfl ?_
 refine RN.a rfl ?_
 refine RN.nil ?_
 refine hK2 _ _ ?_
 refine T.seq fun K3 hK3 => ?_
 refine T.block ?_
 refine T.loop (G := Nat) (fun k => RunsR l k ∧ posR l k ≤ l.length) (fun k => [(0, strV l), (3, strV (l.drop (posR l k)))]) (fun k => [Fr]) (fun k => l.length - posR l k) 0 ⟨runs_zero, Nat.zero_le _⟩ (LiveIs.cons rfl (LiveIs.cons rfl LiveIs.nil)) (Ent.refl _) ?_
 rintro k e4 ⟨hr, hp⟩
 refine T.seq fun K5 hK5 => ?_
 refine T.seq fun K6 hK6 => ?_
 refine T.region (l := [0, 1, 2]) rfl ?_
 refine RN.m rfl ?_
 refine RN.p rfl (p_len_s rfl Tryz.underlying9 rfl) ?_
 refine RN.p rfl (p_gtr rfl rfl rfl) ?_
 refine RN.nil ?_
 refine hK6 _ _ ?_
 refine T.cond_dec rfl (fun h9 => ?_) (fun h9 => ?_)
 ·
  have hlt : posR l k < l.length := by rw [List.length_drop] at h9; omega
  refine T.skip ?_
  refine hK5 _ _ ?_
  refine T.block ?_
  refine T.seq fun K7 hK7 => ?_
  refine T.region (l := [0, 1, 2, 3, 4, 5, 6]) rfl ?_
  refine RN.m rfl ?_
  refine RN.C [] rfl rfl rfl rfl (c_call rfl rfl) (Rune_spec (l.drop (posR l k))) rfl ?_
  rintro _ _ ⟨v, n, rfl, hq, rfl⟩
  have hra := rune_at hlt hq
  refine RN.m rfl ?_
  refine RN.p rfl (p_extract rfl rfl rfl) ?_
  refine RN.p rfl (p_extract rfl rfl rfl) ?_
  refine RN.a rfl ?_
  refine RN.a rfl ?_
  refine RN.nil ?_
  refine hK7 _ _ ?_
  refine T.seq fun K8 hK8 => ?_
  refine T.seq fun K9 hK9 => ?_
  refine T.region (l := [0, 1, 2, 3, 4, 5, 6, 7, 8, 9]) rfl ?_
  refine RN.m rfl ?_
  refine RN.p rfl (p_eql rfl rfl rfl) ?_
  refine RN.m rfl ?_
  refine RN.split_dec 17 rfl (fun h17 => ?_) (fun h17 => ?_)
  ·
   refine RN.no0 rfl ?_
   refine RN.no0 rfl ?_
   refine RN.pt rfl ?_
   refine RN.m rfl ?_
   refine RN.no0 rfl ?_
   refine RN.no0 rfl ?_
   refine RN.pt rfl ?_
   refine RN.nil ?_
   refine hK9 _ _ ?_
   refine T.cond_t rfl ?_
   refine T.seq fun K10 hK10 => ?_
   refine T.region (l := [0]) rfl ?_
   refine RN.a rfl ?_
   refine RN.nil ?_
   refine hK10 _ _ ?_
   refine T.ret ?_
   refine Post.seq_r ?_
   refine Post.block_r ?_
   refine Post.seq_r ?_
   refine Post.block_r ?_
   refine Post.seq_r ?_
   refine bodyQ_ret [] (RetRun.tmp RetRun.nil) ⟨_, rfl, .inl ⟨⟨k, hr, hlt, (not_of_zero hlt hra (by omega))⟩, rfl⟩, rfl⟩ (Ent.refl _)
  ·
   obtain ⟨e, hne⟩ := hra.resolve_left (fun g => h17 (by omega))
   have ev : v = (dec l (posR l k)).1 := congrArg Prod.fst e
   have en : n = (dec l (posR l k)).2 := congrArg Prod.snd e
   have hds := dec_step hlt
   refine RN.m rfl ?_
   refine RN.p rfl (p_lss rfl rfl rfl) ?_
   refine RN.pf rfl ?_
   refine RN.m rfl ?_
   refine RN.split_dec 21 rfl (fun h21 => ?_) (fun h21 => ?_)
   ·
    refine RN.no0 rfl ?_
    refine RN.no0 rfl ?_
    refine RN.pt rfl ?_
    refine RN.nil ?_
    refine hK9 _ _ ?_
    refine T.cond_t rfl ?_
    refine T.seq fun K11 hK11 => ?_
    refine T.region (l := [0]) rfl ?_
    refine RN.a rfl ?_
    refine RN.nil ?_
    refine hK11 _ _ ?_
    refine T.ret ?_
    refine Post.seq_r ?_
    refine Post.block_r ?_
    refine Post.seq_r ?_
    refine Post.block_r ?_
    refine Post.seq_r ?_
    refine bodyQ_ret [] (RetRun.tmp RetRun.nil) ⟨_, rfl, .inl ⟨⟨k, hr, hlt, (fun ho => by have := ho.1; omega)⟩, rfl⟩, rfl⟩ (Ent.refl _)
   ·
    refine RN.m rfl ?_
    refine RN.p rfl (p_eql rfl rfl rfl) ?_
    refine RN.pf rfl ?_
    refine RN.nil ?_
    refine hK9 _ _ ?_
    refine T.cond_dec rfl (fun h24 => ?_) (fun h24 => ?_)
    ·
     refine T.seq fun K12 hK12 => ?_
     refine T.region (l := [0]) rfl ?_
     refine RN.a rfl ?_
     refine RN.nil ?_
     refine hK12 _ _ ?_
     refine T.ret ?_
     refine Post.seq_r ?_
     refine Post.block_r ?_
     refine Post.seq_r ?_
     refine Post.block_r ?_
     refine Post.seq_r ?_
     refine bodyQ_ret [] (RetRun.tmp RetRun.nil) ⟨_, rfl, .inl ⟨⟨k, hr, hlt, (fun ho => ho.2.1 (by omega))⟩, rfl⟩, rfl⟩ (Ent.refl _)
    ·
     refine T.skip ?_
     refine hK8 _ _ ?_
     refine T.region (l := [0, 1, 2, 3]) rfl ?_
     refine RN.m rfl ?_
     refine RN.m rfl ?_
     refine RN.p rfl (by exact (p_slice_s_lo rfl Tryz.underlying9 rfl rfl (by rw [List.length_drop]; omega))) ?_
     refine RN.a rfl ?_
     refine RN.nil ?_
     refine ⟨k + 1, (have h2 := runs_step hr hlt ⟨by omega, by omega, hne⟩; ⟨h2, posR_le h2⟩), (by show _ - (posR l k + _) < _ - posR l k; omega), (LiveIs.cons rfl (LiveIs.cons (congrArg strV (by rw [List.drop_drop, en]; rfl)) LiveIs.nil)), Ent.refl _⟩
 ·
  have hle : posR l k = l.length := by rw [List.length_drop] at h9; omega
  refine T.exit ?_
  refine Post.seq_x ?_
  refine Post.seq_x ?_
  refine Post.block_hit ?_
  refine hK3 _ _ ?_
  refine T.seq fun K13 hK13 => ?_
  refine T.region (l := [0, 1, 2, 3, 4, 5, 6, 7, 8]) rfl ?_
  refine RN.m rfl ?_
  refine RN.p rfl (p_len_s rfl Tryz.underlying9 rfl) ?_
  refine RN.p rfl (p_geq rfl rfl rfl) ?_
  refine RN.m rfl ?_
  refine RN.split_dec 31 rfl (fun h31 => ?_) (fun h31 => ?_)
  ·
   refine RN.m rfl ?_
   refine RN.p rfl (p_len_s rfl Tryz.underlying9 rfl) ?_
   refine RN.p rfl (p_leq rfl rfl rfl) ?_
   refine RN.pt rfl ?_
   refine RN.a rfl ?_
   refine RN.nil ?_
   refine hK13 _ _ ?_
   refine T.ret ?_
   refine bodyQ_ret [] (RetRun.tmp RetRun.nil) ⟨_, rfl, .inr ⟨⟨k, hr, by omega⟩, decide_eq_decide.2 ⟨fun g => ⟨by omega, by omega⟩, fun g => by omega⟩⟩, rfl⟩ (Ent.refl _)
  ·
   refine RN.no0 rfl ?_
   refine RN.no0 rfl ?_
   refine RN.no0 rfl ?_
   refine RN.pf rfl ?_
   refine RN.a rfl ?_
   refine RN.nil ?_
   refine hK13 _ _ ?_
   refine T.ret ?_
   refine bodyQ_ret [] (RetRun.tmp RetRun.nil) ⟨_, rfl, .inr ⟨⟨k, hr, by omega⟩, (decide_eq_false (fun g => by omega)).symm⟩, rfl⟩ (Ent.refl _)

end Go.Proofs.YtbbgajjonodlfaaGreat
