/-
 The law's own answer: walked.
-/
import Derived.Test.YtbbgajjonodlfaaGreatGYvR8
import Derived.Test.YtbbgajjonodlfaaGreatGYvR5
import Derived.Test.YtbbgajjonodlfaaGreatGYvV5
import Derived.Test.YtbbgajjonodlfaaGreatGEvS6vT0
import Derived.Test.YtbbgajjonodlfaaGreatGYvR1
import Derived.Test.YtbbgajjonodlfaaGreatGYvTy
import Derived.Test.YtbbgajjonodlfaaGreatGModelVo
import Derived.Test.YtbbgajjonodlfaaGreatGSl9
import Derived.Test.YtbbgajjonodlfaaGreatRows
import Derived.ChangeMaps5
import Derived.SizedLaws
set_option linter.unusedVariables false
set_option linter.unusedSimpArgs false
namespace Go.Proofs.YtbbgajjonodlfaaGreat
open Go Go.Sl Go.Proofs
set_option maxRecDepth 20000
open Go.Mo Go.Evl
theorem own_spec (t : List UInt8) (c : Nat) (es : List VE) (h : Go.Mo.Clean c es t) (x : VAct) (hd : x.data.length ≤ 140737488351232) : Ctr Tryz.prog 15 [strV t, .agg x.cells.toArray] [] (fun v Ps => v = .tuple #[strV (stepV c es t x).2.2.2, strV (stepV c es t x).1, .int .i64 (stepV c es t x).2.1] ∧ Ps = []) := by
 refine Ctr.of_body Tryz.func15 rfl (by kernel_rfl) Tryz.ntmps15 rfl rfl (fun Fr => ?_)
 have ht := h.tl
 have hc := h.c9
 have hlen := h.v.len
 refine T.seq fun K1 hK1 => ?_
 refine T.region (l := [0, 1, 2, 3]) rfl ?_
 refine RN.E rfl rfl rfl rfl (e_box rfl rfl rfl) ?_
 rintro _ _ ⟨b3, rfl, rfl⟩
 refine RN.a rfl ?_
 refine RN.a rfl ?_
 refine RN.a rfl ?_
 refine RN.nil ?_
 refine hK1 _ _ ?_
 refine T.seq fun K2 hK2 => ?_
 refine T.region (l := [0, 1]) rfl ?_
 refine RN.m rfl ?_
 refine RN.a rfl ?_
 refine RN.nil ?_
 refine hK2 _ _ ?_
 refine T.seq fun K3 hK3 => ?_
 refine T.region (l := [0]) rfl ?_
 refine RN.a rfl ?_
 refine RN.nil ?_
 refine hK3 _ _ ?_
 refine T.seq fun K4 hK4 => ?_
 refine T.region (l := [0]) rfl ?_
 refine RN.a rfl ?_
 refine RN.nil ?_
 refine hK4 _ _ ?_
 refine T.seq fun K5 hK5 => ?_
 refine T.seq fun K6 hK6 => ?_
 refine T.region (l := [0, 1]) rfl ?_
 refine RN.p rfl (p_fieldAddr rfl fa_38_0 rfl) ?_
 refine RN.u rfl (by exact (q_load rfl sc_3 rfl (i := 0) rfl rfl)) ?_
 refine RN.nil ?_
 refine hK6 _ _ ?_
 refine T.block ?_
 refine T.seq fun K7 hK7 => ?_
 refine T.region (l := [0, 1]) rfl ?_
 refine RN.p rfl (p_eql rfl rfl rfl) ?_
 refine RN.a rfl ?_
 refine RN.nil ?_
 refine hK7 _ _ ?_
 refine T.cond_dec rfl (fun h15 => ?_) (fun h15 => ?_)
 ·
  refine T.regionD (z := 12) (Bs := [row b3 38 x.cells]) (l := [(0, .pure), (1, .pure), (2, .load), (4, .pure), (5, .load), (3, .eff), (6, .eff), (7, .pure), (8, .pure), (9, .pure), (10, .pure), (11, .pure)]) mixed (by kernel_rfl) (by exact Ent.pull_drop (is := [0]) rfl) ?_
  refine RD.n rfl (p_move rfl (by conv => lhs; whnf)) ?_
  refine RD.n rfl (p_fieldAddr rfl fa_38_1 rfl) ?_
  refine RD.qq rfl rfl rfl rfl (by exact (q_load rfl sc_3 rfl (i := 0) rfl rfl)) (by exact Ent.pull_drop (is := [0]) rfl) ?_
  refine RD.n rfl (p_fieldAddr rfl fa_38_4 rfl) ?_
  refine RD.qq rfl rfl rfl rfl (by exact (q_load rfl sc_3 rfl (i := 0) rfl rfl)) (by exact Ent.pull_drop (is := [0]) rfl) ?_
  refine RD.C [] rfl rfl rfl rfl (c_call rfl rfl) (name_spec x.a) rfl (by rintro _ _ ⟨rfl, rfl⟩; exact .inl (by exact Ent.pull_drop (is := [0]) rfl)) ?_
  rintro _ _ ⟨rfl, rfl⟩
  refine RD.C [] rfl rfl rfl rfl (c_call rfl rfl) (RCreate_spec t c es h (nmT x.a) x.n) rfl (by rintro _ _ ⟨rfl, rfl⟩; exact .inl (by exact Ent.pull_drop (is := [0]) rfl)) ?_
  rintro _ _ ⟨rfl, rfl⟩
  refine RD.n rfl (p_move rfl (by conv => lhs; whnf)) ?_
  refine RD.n rfl (p_extract rfl rfl rfl) ?_
  refine RD.n rfl (p_extract rfl rfl rfl) ?_
  refine RD.n rfl (p_assign rfl (by conv => lhs; whnf)) ?_
  refine RD.n rfl (p_assign rfl (by conv => lhs; whnf)) ?_
  refine RD.nil ?_
  refine hK5 _ _ ?_
  refine T.seq fun K8 hK8 => ?_
  refine T.region (l := [0, 1, 2, 3, 4, 5]) rfl ?_
  refine RN.m rfl ?_
  refine RN.m rfl ?_
  refine RN.m rfl ?_
  refine RN.a rfl ?_
  refine RN.a rfl ?_
  refine RN.a rfl ?_
  refine RN.nil ?_
  refine hK8 _ _ ?_
  refine T.ret ?_
  have hst : stepV c es t x = ([], creV c es t (nmT x.a) x.n) := by unfold stepV; rw [if_pos h15]
  refine bodyQ_ret [] (RetRun.tmp (RetRun.tmp (RetRun.tmp RetRun.nil))) ⟨by rw [hst]; rfl, rfl⟩ (Ent.drop _ _)
 ·
  refine T.seq fun K9 hK9 => ?_
  refine T.region (l := [0, 1]) rfl ?_
  refine RN.p rfl (p_eql rfl rfl rfl) ?_
  refine RN.a rfl ?_
  refine RN.nil ?_
  refine hK9 _ _ ?_
  refine T.cond_dec rfl (fun h27 => ?_) (fun h27 => ?_)
  ·
   refine T.region (l := [0, 1, 2, 3, 4, 5, 6, 7, 8, 9]) rfl ?_
   refine RN.m rfl ?_
   refine RN.p rfl (p_fieldAddr rfl fa_38_1 rfl) ?_
   refine RN.u rfl (by exact (q_load rfl sc_3 rfl (i := 0) rfl rfl)) ?_
   refine RN.C [] rfl rfl rfl rfl (c_call rfl rfl) (name_spec x.a) rfl ?_
   rintro _ _ ⟨rfl, rfl⟩
   refine RN.C [] rfl rfl rfl rfl (c_call rfl rfl) (RDelete_spec t c es h (nmT x.a)) rfl ?_
   rintro _ _ ⟨rfl, rfl⟩
   refine RN.m rfl ?_
   refine RN.p rfl (p_extract rfl rfl rfl) ?_
   refine RN.p rfl (p_extract rfl rfl rfl) ?_
   refine RN.a rfl ?_
   refine RN.a rfl ?_
   refine RN.nil ?_
   refine hK5 _ _ ?_
   refine T.seq fun K10 hK10 => ?_
   refine T.region (l := [0, 1, 2, 3, 4, 5]) rfl ?_
   refine RN.m rfl ?_
   refine RN.m rfl ?_
   refine RN.m rfl ?_
   refine RN.a rfl ?_
   refine RN.a rfl ?_
   refine RN.a rfl ?_
   refine RN.nil ?_
   refine hK10 _ _ ?_
   refine T.ret ?_
   have hst : stepV c es t x = ([], delV es t (nmT x.a)) := by unfold stepV; rw [if_neg h15, if_pos h27]
   refine bodyQ_ret [] (RetRun.tmp (RetRun.tmp (RetRun.tmp RetRun.nil))) ⟨by rw [hst]; rfl, rfl⟩ (Ent.drop _ _)
  ·
   refine T.seq fun K11 hK11 => ?_
   refine T.region (l := [0, 1]) rfl ?_
   refine RN.p rfl (p_eql rfl rfl rfl) ?_
   refine RN.a rfl ?_
   refine RN.nil ?_
   refine hK11 _ _ ?_
   refine T.cond_dec rfl (fun h37 => ?_) (fun h37 => ?_)
   ·
    refine T.regionD (z := 13) (Bs := [row b3 38 x.cells]) (l := [(0, .pure), (1, .pure), (2, .load), (4, .pure), (5, .load), (3, .eff), (6, .eff), (7, .eff), (8, .pure), (9, .pure), (10, .pure), (11, .pure), (12, .pure)]) mixed (by kernel_rfl) (by exact Ent.pull_drop (is := [0]) rfl) ?_
    refine RD.n rfl (p_move rfl (by conv => lhs; whnf)) ?_
    refine RD.n rfl (p_fieldAddr rfl fa_38_1 rfl) ?_
    refine RD.qq rfl rfl rfl rfl (by exact (q_load rfl sc_3 rfl (i := 0) rfl rfl)) (by exact Ent.pull_drop (is := [0]) rfl) ?_
    refine RD.n rfl (p_fieldAddr rfl fa_38_2 rfl) ?_
    refine RD.qq rfl rfl rfl rfl (by exact (q_load rfl sc_3 rfl (i := 0) rfl rfl)) (by exact Ent.pull_drop (is := [0]) rfl) ?_
    refine RD.C [] rfl rfl rfl rfl (c_call rfl rfl) (name_spec x.a) rfl (by rintro _ _ ⟨rfl, rfl⟩; exact .inl (by exact Ent.pull_drop (is := [0]) rfl)) ?_
    rintro _ _ ⟨rfl, rfl⟩
    refine RD.C [] rfl rfl rfl rfl (c_call rfl rfl) (name_spec x.b) rfl (by rintro _ _ ⟨rfl, rfl⟩; exact .inl (by exact Ent.pull_drop (is := [0]) rfl)) ?_
    rintro _ _ ⟨rfl, rfl⟩
    refine RD.C [] rfl rfl rfl rfl (c_call rfl rfl) (RRename_spec t c es h (nmT x.a) (nmT x.b)) rfl (by rintro _ _ ⟨rfl, rfl⟩; exact .inl (by exact Ent.pull_drop (is := [0]) rfl)) ?_
    rintro _ _ ⟨rfl, rfl⟩
    refine RD.n rfl (p_move rfl (by conv => lhs; whnf)) ?_
    refine RD.n rfl (p_extract rfl rfl rfl) ?_
    refine RD.n rfl (p_extract rfl rfl rfl) ?_
    refine RD.n rfl (p_assign rfl (by conv => lhs; whnf)) ?_
    refine RD.n rfl (p_assign rfl (by conv => lhs; whnf)) ?_
    refine RD.nil ?_
    refine hK5 _ _ ?_
    refine T.seq fun K12 hK12 => ?_
    refine T.region (l := [0, 1, 2, 3, 4, 5]) rfl ?_
    refine RN.m rfl ?_
    refine RN.m rfl ?_
    refine RN.m rfl ?_
    refine RN.a rfl ?_
    refine RN.a rfl ?_
    refine RN.a rfl ?_
    refine RN.nil ?_
    refine hK12 _ _ ?_
    refine T.ret ?_
    have hst : stepV c es t x = ([], renV es t (nmT x.a) (nmT x.b)) := by unfold stepV; rw [if_neg h15, if_neg h27, if_pos h37]
    refine bodyQ_ret [] (RetRun.tmp (RetRun.tmp (RetRun.tmp RetRun.nil))) ⟨by rw [hst]; rfl, rfl⟩ (Ent.drop _ _)
   ·
    refine T.seq fun K13 hK13 => ?_
    refine T.region (l := [0, 1]) rfl ?_
    refine RN.p rfl (p_eql rfl rfl rfl) ?_
    refine RN.a rfl ?_
    refine RN.nil ?_
    refine hK13 _ _ ?_
    refine T.cond_dec rfl (fun h50 => ?_) (fun h50 => ?_)
    ·
     refine T.regionD (z := 13) (Bs := [row b3 38 x.cells]) (l := [(0, .pure), (1, .pure), (2, .load), (4, .pure), (5, .load), (3, .eff), (6, .eff), (7, .eff), (8, .pure), (9, .pure), (10, .pure), (11, .pure), (12, .pure)]) mixed (by kernel_rfl) (by exact Ent.pull_drop (is := [0]) rfl) ?_
     refine RD.n rfl (p_move rfl (by conv => lhs; whnf)) ?_
     refine RD.n rfl (p_fieldAddr rfl fa_38_1 rfl) ?_
     refine RD.qq rfl rfl rfl rfl (by exact (q_load rfl sc_3 rfl (i := 0) rfl rfl)) (by exact Ent.pull_drop (is := [0]) rfl) ?_
     refine RD.n rfl (p_fieldAddr rfl fa_38_2 rfl) ?_
     refine RD.qq rfl rfl rfl rfl (by exact (q_load rfl sc_3 rfl (i := 0) rfl rfl)) (by exact Ent.pull_drop (is := [0]) rfl) ?_
     refine RD.C [] rfl rfl rfl rfl (c_call rfl rfl) (name_spec x.a) rfl (by rintro _ _ ⟨rfl, rfl⟩; exact .inl (by exact Ent.pull_drop (is := [0]) rfl)) ?_
     rintro _ _ ⟨rfl, rfl⟩
     refine RD.C [] rfl rfl rfl rfl (c_call rfl rfl) (name_spec x.b) rfl (by rintro _ _ ⟨rfl, rfl⟩; exact .inl (by exact Ent.pull_drop (is := [0]) rfl)) ?_
     rintro _ _ ⟨rfl, rfl⟩
     refine RD.C [] rfl rfl rfl rfl (c_call rfl rfl) (RClone_spec t c es h (nmT x.a) (nmT x.b)) rfl (by rintro _ _ ⟨rfl, rfl⟩; exact .inl (by exact Ent.pull_drop (is := [0]) rfl)) ?_
     rintro _ _ ⟨rfl, rfl⟩
     refine RD.n rfl (p_move rfl (by conv => lhs; whnf)) ?_
     refine RD.n rfl (p_extract rfl rfl rfl) ?_
     refine RD.n rfl (p_extract rfl rfl rfl) ?_
     refine RD.n rfl (p_assign rfl (by conv => lhs; whnf)) ?_
     refine RD.n rfl (p_assign rfl (by conv => lhs; whnf)) ?_
     refine RD.nil ?_
     refine hK5 _ _ ?_
     refine T.seq fun K14 hK14 => ?_
     refine T.region (l := [0, 1, 2, 3, 4, 5]) rfl ?_
     refine RN.m rfl ?_
     refine RN.m rfl ?_
     refine RN.m rfl ?_
     refine RN.a rfl ?_
     refine RN.a rfl ?_
     refine RN.a rfl ?_
     refine RN.nil ?_
     refine hK14 _ _ ?_
     refine T.ret ?_
     have hst : stepV c es t x = ([], cloV c es t (nmT x.a) (nmT x.b)) := by unfold stepV; rw [if_neg h15, if_neg h27, if_neg h37, if_pos h50]
     refine bodyQ_ret [] (RetRun.tmp (RetRun.tmp (RetRun.tmp RetRun.nil))) ⟨by rw [hst]; rfl, rfl⟩ (Ent.drop _ _)
    ·
     refine T.seq fun K15 hK15 => ?_
     refine T.seq fun K16 hK16 => ?_
     refine T.region (l := [0, 1]) rfl ?_
     refine RN.p rfl (p_eql rfl rfl rfl) ?_
     refine RN.a rfl ?_
     refine RN.nil ?_
     refine hK16 _ _ ?_
     refine T.cond_dec rfl (fun h63 => ?_) (fun h63 => ?_)
     ·
      refine T.known 63 rfl (congrArg Value.bool (decide_eq_true h63)) ?_
      refine T.skip ?_
      refine hK15 _ _ ?_
      refine T.cond_t rfl ?_
      refine T.seq fun K17 hK17 => ?_
      refine T.regionD (z := 14) (Bs := [row b3 38 x.cells]) (l := [(0, .pure), (1, .pure), (2, .load), (4, .pure), (5, .load), (6, .pure), (7, .load), (3, .eff), (8, .eff), (9, .pure), (10, .pure), (11, .pure), (12, .pure), (13, .pure)]) mixed (by kernel_rfl) (by exact Ent.pull_drop (is := [0]) rfl) ?_
      refine RD.n rfl (p_move rfl (by conv => lhs; whnf)) ?_
      refine RD.n rfl (p_fieldAddr rfl fa_38_1 rfl) ?_
      refine RD.qq rfl rfl rfl rfl (by exact (q_load rfl sc_3 rfl (i := 0) rfl rfl)) (by exact Ent.pull_drop (is := [0]) rfl) ?_
      refine RD.n rfl (p_fieldAddr rfl fa_38_3 rfl) ?_
      refine RD.qq rfl rfl rfl rfl (by exact (q_load rfl sc_3 rfl (i := 0) rfl rfl)) (by exact Ent.pull_drop (is := [0]) rfl) ?_
      refine RD.n rfl (p_fieldAddr rfl fa_38_4 rfl) ?_
      refine RD.qq rfl rfl rfl rfl (by exact (q_load rfl sc_3 rfl (i := 0) rfl rfl)) (by exact Ent.pull_drop (is := [0]) rfl) ?_
      refine RD.C [] rfl rfl rfl rfl (c_call rfl rfl) (name_spec x.a) rfl (by rintro _ _ ⟨rfl, rfl⟩; exact .inl (by exact Ent.pull_drop (is := [0]) rfl)) ?_
      rintro _ _ ⟨rfl, rfl⟩
      refine RD.C [] rfl rfl rfl rfl (c_call rfl rfl) (RPlace_spec t c es h (nmT x.a) x.at_ x.n) rfl (by rintro _ _ ⟨rfl, rfl⟩; exact .inl (by exact Ent.pull_drop (is := [0]) rfl)) ?_
      rintro _ _ ⟨rfl, rfl⟩
      refine RD.n rfl (p_move rfl (by conv => lhs; whnf)) ?_
      refine RD.n rfl (p_extract rfl rfl rfl) ?_
      refine RD.n rfl (p_extract rfl rfl rfl) ?_
      refine RD.n rfl (p_assign rfl (by conv => lhs; whnf)) ?_
      refine RD.n rfl (p_assign rfl (by conv => lhs; whnf)) ?_
      refine RD.nil ?_
      refine hK17 _ _ ?_
      refine T.seq fun K18 hK18 => ?_
      refine T.region (l := [0, 1]) rfl ?_
      refine RN.m rfl ?_
      refine RN.a rfl ?_
      refine RN.nil ?_
      refine hK18 _ _ ?_
      refine T.seq fun K19 hK19 => ?_
      refine T.seq fun K20 hK20 => ?_
      refine T.region (l := [0, 1, 2, 3, 4, 5, 6]) rfl ?_
      refine RN.m rfl ?_
      refine RN.p rfl (p_eql rfl rfl rfl) ?_
      refine RN.m rfl ?_
      refine RN.split_dec 81 rfl (fun h81 => ?_) (fun h81 => ?_)
      ·
       refine RN.p rfl (p_fieldAddr rfl fa_38_0 rfl) ?_
       refine RN.u rfl (by exact (q_load rfl sc_3 rfl (i := 0) rfl rfl)) ?_
       refine RN.p rfl (p_eql rfl rfl rfl) ?_
       refine RN.pt rfl ?_
       refine RN.nil ?_
       refine hK20 _ _ ?_
       refine T.known 85 rfl (show _ = Value.bool true from congrArg Value.bool (decide_eq_true (h63))) ?_
       refine T.cond_t rfl ?_
       refine T.region (l := [0, 1, 2, 3, 4, 5, 6, 7, 8, 9, 10]) rfl ?_
       refine RN.m rfl ?_
       refine RN.m rfl ?_
       refine RN.p rfl (p_fieldAddr rfl fa_38_4 rfl) ?_
       refine RN.u rfl (by exact (q_load rfl sc_3 rfl (i := 0) rfl rfl)) ?_
       refine RN.p rfl (p_fieldAddr rfl fa_38_5 rfl) ?_
       refine RN.u rfl (by exact (q_load rfl sc_9 rfl (i := 0) rfl rfl)) ?_
       refine RN.C [] rfl rfl rfl rfl (c_call rfl rfl) (RWrite_A t (plcE es (nmT x.a) x.at_ x.n).1 x.n x.data (by omega) hd) rfl ?_
       rintro _ _ ⟨rfl, rfl⟩
       refine RN.m rfl ?_
       refine RN.p rfl (p_extract rfl rfl rfl) ?_
       refine RN.p rfl (p_extract rfl rfl rfl) ?_
       refine RN.a rfl ?_
       refine RN.nil ?_
       refine hK19 _ _ ?_
       refine T.seq fun K21 hK21 => ?_
       refine T.region (l := [0, 1, 2, 3, 4, 5, 6]) rfl ?_
       refine RN.m rfl ?_
       refine RN.p rfl (p_eql rfl rfl rfl) ?_
       refine RN.m rfl ?_
       refine RN.known 98 rfl (show _ = Value.bool true from congrArg Value.bool (decide_eq_true (h81))) ?_
       refine RN.p rfl (p_fieldAddr rfl fa_38_0 rfl) ?_
       refine RN.u rfl (by exact (q_load rfl sc_3 rfl (i := 0) rfl rfl)) ?_
       refine RN.p rfl (p_eql rfl rfl rfl) ?_
       refine RN.pt rfl ?_
       refine RN.nil ?_
       refine hK21 _ _ ?_
       refine T.known 102 rfl (show _ = Value.bool false from congrArg Value.bool (decide_eq_false (by omega))) ?_
       refine T.cond_f rfl ?_
       refine T.skip ?_
       refine hK5 _ _ ?_
       refine T.seq fun K22 hK22 => ?_
       refine T.region (l := [0, 1, 2, 3, 4, 5]) rfl ?_
       refine RN.m rfl ?_
       refine RN.m rfl ?_
       refine RN.m rfl ?_
       refine RN.a rfl ?_
       refine RN.a rfl ?_
       refine RN.a rfl ?_
       refine RN.nil ?_
       refine hK22 _ _ ?_
       refine T.ret ?_
       have hst : stepV c es t x = ([], (wriV es t (nmT x.a) x.at_ x.n x.data).1, es, (wriV es t (nmT x.a) x.at_ x.n x.data).2) := by unfold stepV; rw [if_neg h15, if_neg h27, if_neg h37, if_neg h50, if_pos h63]
       refine bodyQ_ret [] (RetRun.tmp (RetRun.tmp (RetRun.tmp RetRun.nil))) ⟨by rw [hst, wri_yes h81, h81]; rfl, rfl⟩ (Ent.drop _ _)
      ·
       refine RN.no0 rfl ?_
       refine RN.no0 rfl ?_
       refine RN.no0 rfl ?_
       refine RN.pf rfl ?_
       refine RN.nil ?_
       refine hK20 _ _ ?_
       refine T.cond_f rfl ?_
       refine T.skip ?_
       refine hK19 _ _ ?_
       refine T.seq fun K23 hK23 => ?_
       refine T.region (l := [0, 1, 2, 3, 4, 5, 6]) rfl ?_
       refine RN.m rfl ?_
       refine RN.p rfl (p_eql rfl rfl rfl) ?_
       refine RN.m rfl ?_
       refine RN.known 98 rfl (show _ = Value.bool false from congrArg Value.bool (decide_eq_false (h81))) ?_
       refine RN.no0 rfl ?_
       refine RN.no0 rfl ?_
       refine RN.no0 rfl ?_
       refine RN.pf rfl ?_
       refine RN.nil ?_
       refine hK23 _ _ ?_
       refine T.cond_f rfl ?_
       refine T.skip ?_
       refine hK5 _ _ ?_
       refine T.seq fun K24 hK24 => ?_
       refine T.region (l := [0, 1, 2, 3, 4, 5]) rfl ?_
       refine RN.m rfl ?_
       refine RN.m rfl ?_
       refine RN.m rfl ?_
       refine RN.a rfl ?_
       refine RN.a rfl ?_
       refine RN.a rfl ?_
       refine RN.nil ?_
       refine hK24 _ _ ?_
       refine T.ret ?_
       have hst : stepV c es t x = ([], (wriV es t (nmT x.a) x.at_ x.n x.data).1, es, (wriV es t (nmT x.a) x.at_ x.n x.data).2) := by unfold stepV; rw [if_neg h15, if_neg h27, if_neg h37, if_neg h50, if_pos h63]
       refine bodyQ_ret [] (RetRun.tmp (RetRun.tmp (RetRun.tmp RetRun.nil))) ⟨by rw [hst, wri_no h81]; rfl, rfl⟩ (Ent.drop _ _)
     ·
      refine T.known 63 rfl (congrArg Value.bool (decide_eq_false h63)) ?_
      refine T.region (l := [0, 1]) rfl ?_
      refine RN.p rfl (p_eql rfl rfl rfl) ?_
      refine RN.a rfl ?_
      refine RN.nil ?_
      refine hK15 _ _ ?_
      refine T.cond_dec rfl (fun h63 => ?_) (fun h63 => ?_)
      ·
       refine T.known 63 rfl (congrArg Value.bool (decide_eq_true h63)) ?_
       refine T.seq fun K25 hK25 => ?_
       refine T.regionD (z := 14) (Bs := [row b3 38 x.cells]) (l := [(0, .pure), (1, .pure), (2, .load), (4, .pure), (5, .load), (6, .pure), (7, .load), (3, .eff), (8, .eff), (9, .pure), (10, .pure), (11, .pure), (12, .pure), (13, .pure)]) mixed (by kernel_rfl) (by exact Ent.pull_drop (is := [0]) rfl) ?_
       refine RD.n rfl (p_move rfl (by conv => lhs; whnf)) ?_
       refine RD.n rfl (p_fieldAddr rfl fa_38_1 rfl) ?_
       refine RD.qq rfl rfl rfl rfl (by exact (q_load rfl sc_3 rfl (i := 0) rfl rfl)) (by exact Ent.pull_drop (is := [0]) rfl) ?_
       refine RD.n rfl (p_fieldAddr rfl fa_38_3 rfl) ?_
       refine RD.qq rfl rfl rfl rfl (by exact (q_load rfl sc_3 rfl (i := 0) rfl rfl)) (by exact Ent.pull_drop (is := [0]) rfl) ?_
       refine RD.n rfl (p_fieldAddr rfl fa_38_4 rfl) ?_
       refine RD.qq rfl rfl rfl rfl (by exact (q_load rfl sc_3 rfl (i := 0) rfl rfl)) (by exact Ent.pull_drop (is := [0]) rfl) ?_
       refine RD.C [] rfl rfl rfl rfl (c_call rfl rfl) (name_spec x.a) rfl (by rintro _ _ ⟨rfl, rfl⟩; exact .inl (by exact Ent.pull_drop (is := [0]) rfl)) ?_
       rintro _ _ ⟨rfl, rfl⟩
       refine RD.C [] rfl rfl rfl rfl (c_call rfl rfl) (RPlace_spec t c es h (nmT x.a) x.at_ x.n) rfl (by rintro _ _ ⟨rfl, rfl⟩; exact .inl (by exact Ent.pull_drop (is := [0]) rfl)) ?_
       rintro _ _ ⟨rfl, rfl⟩
       refine RD.n rfl (p_move rfl (by conv => lhs; whnf)) ?_
       refine RD.n rfl (p_extract rfl rfl rfl) ?_
       refine RD.n rfl (p_extract rfl rfl rfl) ?_
       refine RD.n rfl (p_assign rfl (by conv => lhs; whnf)) ?_
       refine RD.n rfl (p_assign rfl (by conv => lhs; whnf)) ?_
       refine RD.nil ?_
       refine hK25 _ _ ?_
       refine T.seq fun K26 hK26 => ?_
       refine T.region (l := [0, 1]) rfl ?_
       refine RN.m rfl ?_
       refine RN.a rfl ?_
       refine RN.nil ?_
       refine hK26 _ _ ?_
       refine T.seq fun K27 hK27 => ?_
       refine T.seq fun K28 hK28 => ?_
       refine T.region (l := [0, 1, 2, 3, 4, 5, 6]) rfl ?_
       refine RN.m rfl ?_
       refine RN.p rfl (p_eql rfl rfl rfl) ?_
       refine RN.m rfl ?_
       refine RN.split_dec 81 rfl (fun h81 => ?_) (fun h81 => ?_)
       ·
        refine RN.p rfl (p_fieldAddr rfl fa_38_0 rfl) ?_
        refine RN.u rfl (by exact (q_load rfl sc_3 rfl (i := 0) rfl rfl)) ?_
        refine RN.p rfl (p_eql rfl rfl rfl) ?_
        refine RN.pt rfl ?_
        refine RN.nil ?_
        refine hK28 _ _ ?_
        refine T.known 85 rfl (show _ = Value.bool false from congrArg Value.bool (decide_eq_false (by omega))) ?_
        refine T.cond_f rfl ?_
        refine T.skip ?_
        refine hK27 _ _ ?_
        refine T.seq fun K29 hK29 => ?_
        refine T.region (l := [0, 1, 2, 3, 4, 5, 6]) rfl ?_
        refine RN.m rfl ?_
        refine RN.p rfl (p_eql rfl rfl rfl) ?_
        refine RN.m rfl ?_
        refine RN.known 98 rfl (show _ = Value.bool true from congrArg Value.bool (decide_eq_true (h81))) ?_
        refine RN.p rfl (p_fieldAddr rfl fa_38_0 rfl) ?_
        refine RN.u rfl (by exact (q_load rfl sc_3 rfl (i := 0) rfl rfl)) ?_
        refine RN.p rfl (p_eql rfl rfl rfl) ?_
        refine RN.pt rfl ?_
        refine RN.nil ?_
        refine hK29 _ _ ?_
        refine T.known 102 rfl (show _ = Value.bool true from congrArg Value.bool (decide_eq_true (h63))) ?_
        refine T.cond_t rfl ?_
        refine T.region (l := [0, 1, 2, 3, 4, 5, 6, 7, 8]) rfl ?_
        refine RN.m rfl ?_
        refine RN.m rfl ?_
        refine RN.p rfl (p_fieldAddr rfl fa_38_4 rfl) ?_
        refine RN.u rfl (by exact (q_load rfl sc_3 rfl (i := 0) rfl rfl)) ?_
        refine RN.C [] rfl rfl rfl rfl (c_call rfl rfl) (RRead_A t (plcE es (nmT x.a) x.at_ x.n).1 x.n (by omega)) rfl ?_
        rintro _ _ ⟨rfl, rfl⟩
        refine RN.m rfl ?_
        refine RN.p rfl (p_extract rfl rfl rfl) ?_
        refine RN.p rfl (p_extract rfl rfl rfl) ?_
        refine RN.a rfl ?_
        refine RN.nil ?_
        refine hK5 _ _ ?_
        refine T.seq fun K30 hK30 => ?_
        refine T.region (l := [0, 1, 2, 3, 4, 5]) rfl ?_
        refine RN.m rfl ?_
        refine RN.m rfl ?_
        refine RN.m rfl ?_
        refine RN.a rfl ?_
        refine RN.a rfl ?_
        refine RN.a rfl ?_
        refine RN.nil ?_
        refine hK30 _ _ ?_
        refine T.ret ?_
        have hst : stepV c es t x = ((reaV es t (nmT x.a) x.at_ x.n).1, (reaV es t (nmT x.a) x.at_ x.n).2, es, t) := by unfold stepV; rw [if_neg h15, if_neg h27, if_neg h37, if_neg h50, if_neg (show ¬ x.op = 4 by omega), if_pos h63]
        refine bodyQ_ret [] (RetRun.tmp (RetRun.tmp (RetRun.tmp RetRun.nil))) ⟨by rw [hst, rea_yes h81, h81]; rfl, rfl⟩ (Ent.drop _ _)
       ·
        refine RN.no0 rfl ?_
        refine RN.no0 rfl ?_
        refine RN.no0 rfl ?_
        refine RN.pf rfl ?_
        refine RN.nil ?_
        refine hK28 _ _ ?_
        refine T.cond_f rfl ?_
        refine T.skip ?_
        refine hK27 _ _ ?_
        refine T.seq fun K31 hK31 => ?_
        refine T.region (l := [0, 1, 2, 3, 4, 5, 6]) rfl ?_
        refine RN.m rfl ?_
        refine RN.p rfl (p_eql rfl rfl rfl) ?_
        refine RN.m rfl ?_
        refine RN.known 98 rfl (show _ = Value.bool false from congrArg Value.bool (decide_eq_false (h81))) ?_
        refine RN.no0 rfl ?_
        refine RN.no0 rfl ?_
        refine RN.no0 rfl ?_
        refine RN.pf rfl ?_
        refine RN.nil ?_
        refine hK31 _ _ ?_
        refine T.cond_f rfl ?_
        refine T.skip ?_
        refine hK5 _ _ ?_
        refine T.seq fun K32 hK32 => ?_
        refine T.region (l := [0, 1, 2, 3, 4, 5]) rfl ?_
        refine RN.m rfl ?_
        refine RN.m rfl ?_
        refine RN.m rfl ?_
        refine RN.a rfl ?_
        refine RN.a rfl ?_
        refine RN.a rfl ?_
        refine RN.nil ?_
        refine hK32 _ _ ?_
        refine T.ret ?_
        have hst : stepV c es t x = ((reaV es t (nmT x.a) x.at_ x.n).1, (reaV es t (nmT x.a) x.at_ x.n).2, es, t) := by unfold stepV; rw [if_neg h15, if_neg h27, if_neg h37, if_neg h50, if_neg (show ¬ x.op = 4 by omega), if_pos h63]
        refine bodyQ_ret [] (RetRun.tmp (RetRun.tmp (RetRun.tmp RetRun.nil))) ⟨by rw [hst, rea_no h81]; rfl, rfl⟩ (Ent.drop _ _)
      ·
       refine T.known 63 rfl (congrArg Value.bool (decide_eq_false h63)) ?_
       refine T.skip ?_
       refine hK5 _ _ ?_
       refine T.seq fun K33 hK33 => ?_
       refine T.region (l := [0, 1, 2, 3, 4, 5]) rfl ?_
       refine RN.m rfl ?_
       refine RN.m rfl ?_
       refine RN.m rfl ?_
       refine RN.a rfl ?_
       refine RN.a rfl ?_
       refine RN.a rfl ?_
       refine RN.nil ?_
       refine hK33 _ _ ?_
       refine T.ret ?_
       have hst : stepV c es t x = ([], 0, es, t) := by unfold stepV; rw [if_neg h15, if_neg h27, if_neg h37, if_neg h50, if_neg (show ¬ x.op = 4 by assumption), if_neg h63]
       refine bodyQ_ret [] (RetRun.tmp (RetRun.tmp (RetRun.tmp RetRun.nil))) ⟨by rw [hst]; rfl, rfl⟩ (Ent.drop _ _)

end Go.Proofs.YtbbgajjonodlfaaGreat
namespace Go.Proofs.YtbbgajjonodlfaaGreat
open Go Go.Sl Go.Proofs
set_option maxRecDepth 20000
open Go.Mo Go.Evl
theorem p_nileql_nil {P : Program} {e : Env} {o : Oper} {x : Operand} {t t' : TypeId} {el : TypeId} (hop : o.op = .binOp .eql t x (.const (.pointer none)) t') (hx : ev e x = .pointer none) (ht : P.underlying t = some (.pointer el)) : PRun P e o (.bool true) := by
 intro w; unfold execOp; rw [hop]; simp only [hx]
 have h2 : (Op.equal t (.pointer none) (.pointer none)).run P w = .ok true w := by
  have key : ∀ d, (Op.equalIn (d + 1) t (.pointer none) (.pointer none)).run P w = .ok true w := by
   intro d
   simp [Op.equalIn, run_underlying' ht]
  exact key 9999
 have hb : (binOp .eql t (.pointer none) (.pointer none)).run P w = .ok (.bool true) w := by
  unfold binOp
  simp only [Sem.run_bind, h2, Result.andThen_ok, Sem.run_pure]
 simp only [ev, eqGuard, Sem.run_bind]
 simp [hb]

theorem VolPlays_bad (w0 : World) (size : Int) (first : List UInt8) (q : Option Addr) (scap : Nat) (cs : List VAct) (hfl : first.length ≤ 140737488351232) (hs : size < 1 ∨ 512 < size) : Ctr Tryz.prog 3 [.int .i64 size, strV first, .slice q cs.length scap] [old w0] (fun v Ps => v = .bool true ∧ Ps = [old w0]) := by
 refine Ctr.of_body Tryz.func3 rfl (by kernel_rfl) Tryz.ntmps3 rfl rfl (fun Fr => ?_)
 refine T.seq fun K1 hK1 => ?_
 refine T.region (l := [0]) rfl ?_
 refine RN.a rfl ?_
 refine RN.nil ?_
 refine hK1 _ _ ?_
 refine T.seq fun K2 hK2 => ?_
 refine T.seq fun K3 hK3 => ?_
 refine T.region (l := [0, 1]) rfl ?_
 refine RN.C [] rfl rfl rfl rfl (c_call rfl rfl) (awake25) rfl ?_
 rintro _ _ ⟨rfl, rfl⟩
 refine RN.p rfl (by exact (p_not rfl rfl)) ?_
 refine RN.nil ?_
 refine hK3 _ _ ?_
 refine T.known 19 rfl (show _ = Value.bool false from rfl) ?_
 refine T.cond_f rfl ?_
 refine T.skip ?_
 refine hK2 _ _ ?_
 refine T.seq fun K4 hK4 => ?_
 refine T.region (l := [0, 1, 2, 3, 4, 5, 6]) rfl ?_
 refine RN.m rfl ?_
 refine RN.C [] rfl rfl rfl rfl (c_call rfl rfl) (New_A size) rfl ?_
 rintro v22 Ps22 hq22
 obtain ⟨rfl, rfl⟩ := NewA_no hq22 (by omega)
 refine RN.m rfl ?_
 refine RN.p rfl (p_extract rfl rfl rfl) ?_
 refine RN.p rfl (p_extract rfl rfl rfl) ?_
 refine RN.a rfl ?_
 refine RN.a rfl ?_
 refine RN.nil ?_
 refine hK4 _ _ ?_
 refine T.seq fun K5 hK5 => ?_
 refine T.seq fun K6 hK6 => ?_
 refine T.region (l := [0, 1, 2, 3, 4, 5, 6, 7, 8, 9, 10]) rfl ?_
 refine RN.m rfl ?_
 refine RN.p rfl (p_neq rfl rfl rfl) ?_
 refine RN.m rfl ?_
 refine RN.known 27 rfl (show _ = Value.bool true from rfl) ?_
 refine RN.no0 rfl ?_
 refine RN.no0 rfl ?_
 refine RN.pt rfl ?_
 refine RN.m rfl ?_
 refine RN.no0 rfl ?_
 refine RN.no0 rfl ?_
 refine RN.no0 rfl ?_
 refine RN.pt rfl ?_
 refine RN.nil ?_
 refine hK6 _ _ ?_
 refine T.cond_t rfl ?_
 refine T.seq fun K7 hK7 => ?_
 refine T.region (l := [0]) rfl ?_
 refine RN.a rfl ?_
 refine RN.nil ?_
 refine hK7 _ _ ?_
 refine T.ret ?_
 refine Post.seq_r ?_
 refine bodyQ_ret [old w0] (RetRun.tmp RetRun.nil) ⟨rfl, rfl⟩ (Ent.refl _)

theorem VolPlays_skip (w0 : World) (size : Int) (first : List UInt8) (q : Option Addr) (scap : Nat) (cs : List VAct) (hfl : first.length ≤ 140737488351232) (hs : 1 ≤ size ∧ size ≤ 512) (hb : 25 < cs.length ∨ 64 < size) : Ctr Tryz.prog 3 [.int .i64 size, strV first, .slice q cs.length scap] [old w0] (fun v Ps => v = .bool true ∧ Ps = [old w0]) := by
 refine Ctr.of_body Tryz.func3 rfl (by kernel_rfl) Tryz.ntmps3 rfl rfl (fun Fr => ?_)
 refine T.seq fun K1 hK1 => ?_
 refine T.region (l := [0]) rfl ?_
 refine RN.a rfl ?_
 refine RN.nil ?_
 refine hK1 _ _ ?_
 refine T.seq fun K2 hK2 => ?_
 refine T.seq fun K3 hK3 => ?_
 refine T.region (l := [0, 1]) rfl ?_
 refine RN.C [] rfl rfl rfl rfl (c_call rfl rfl) (awake25) rfl ?_
 rintro _ _ ⟨rfl, rfl⟩
 refine RN.p rfl (by exact (p_not rfl rfl)) ?_
 refine RN.nil ?_
 refine hK3 _ _ ?_
 refine T.known 19 rfl (show _ = Value.bool false from rfl) ?_
 refine T.cond_f rfl ?_
 refine T.skip ?_
 refine hK2 _ _ ?_
 refine T.seq fun K4 hK4 => ?_
 refine T.region (l := [0, 1, 2, 3, 4, 5, 6]) rfl ?_
 refine RN.m rfl ?_
 refine RN.C [] rfl rfl rfl rfl (c_call rfl rfl) (New_A size) rfl ?_
 rintro v22 Ps22 hq22
 obtain ⟨a, rfl, rfl⟩ := NewA_yes hq22 (by omega)
 refine RN.m rfl ?_
 refine RN.p rfl (p_extract rfl rfl rfl) ?_
 refine RN.p rfl (p_extract rfl rfl rfl) ?_
 refine RN.a rfl ?_
 refine RN.a rfl ?_
 refine RN.nil ?_
 refine hK4 _ _ ?_
 refine T.seq fun K5 hK5 => ?_
 refine T.seq fun K6 hK6 => ?_
 refine T.region (l := [0, 1, 2, 3, 4, 5, 6, 7, 8, 9, 10]) rfl ?_
 refine RN.m rfl ?_
 refine RN.p rfl (p_neq rfl rfl rfl) ?_
 refine RN.m rfl ?_
 refine RN.known 27 rfl (show _ = Value.bool false from rfl) ?_
 refine RN.m rfl ?_
 refine RN.p rfl (p_gtr rfl rfl rfl) ?_
 refine RN.pf rfl ?_
 refine RN.m rfl ?_
 refine RN.split_dec 31 rfl (fun h31 => ?_) (fun h31 => ?_)
 ·
  refine RN.no0 rfl ?_
  refine RN.no0 rfl ?_
  refine RN.no0 rfl ?_
  refine RN.pt rfl ?_
  refine RN.nil ?_
  refine hK6 _ _ ?_
  refine T.cond_t rfl ?_
  refine T.seq fun K7 hK7 => ?_
  refine T.region (l := [0]) rfl ?_
  refine RN.a rfl ?_
  refine RN.nil ?_
  refine hK7 _ _ ?_
  refine T.ret ?_
  refine Post.seq_r ?_
  refine bodyQ_ret [old w0] (RetRun.tmp RetRun.nil) ⟨rfl, rfl⟩ (Ent.pull_drop (is := [1, 1]) rfl)
 ·
  refine RN.m rfl ?_
  refine RN.p rfl (p_len rfl Tryz.underlying22 rfl) ?_
  refine RN.p rfl (p_gtr rfl rfl rfl) ?_
  refine RN.pf rfl ?_
  refine RN.nil ?_
  refine hK6 _ _ ?_
  refine T.cond_dec rfl (fun h35 => ?_) (fun h35 => ?_)
  ·
   refine T.seq fun K8 hK8 => ?_
   refine T.region (l := [0]) rfl ?_
   refine RN.a rfl ?_
   refine RN.nil ?_
   refine hK8 _ _ ?_
   refine T.ret ?_
   refine Post.seq_r ?_
   refine bodyQ_ret [old w0] (RetRun.tmp RetRun.nil) ⟨rfl, rfl⟩ (Ent.pull_drop (is := [1, 1]) rfl)
  ·
   exfalso; omega --done

theorem VolPlays_few (w0 : World) (sz : Nat) (first : List UInt8) (q : Option Addr) (scap : Nat) (cs : List VAct) (hfl : first.length ≤ 140737488351232) (hs : 1 ≤ sz ∧ sz ≤ 8) (hl : cs.length ≤ 25) : Ctr Tryz.prog 3 [intV sz, strV first, .slice q cs.length scap] [old w0] (fun v Ps => v = .bool true ∧ Ps = [old w0]) := by
 refine Ctr.of_body Tryz.func3 rfl (by kernel_rfl) Tryz.ntmps3 rfl rfl (fun Fr => ?_)
 refine T.seq fun K1 hK1 => ?_
 refine T.region (l := [0]) rfl ?_
 refine RN.a rfl ?_
 refine RN.nil ?_
 refine hK1 _ _ ?_
 refine T.seq fun K2 hK2 => ?_
 refine T.seq fun K3 hK3 => ?_
 refine T.region (l := [0, 1]) rfl ?_
 refine RN.C [] rfl rfl rfl rfl (c_call rfl rfl) (awake25) rfl ?_
 rintro _ _ ⟨rfl, rfl⟩
 refine RN.p rfl (by exact (p_not rfl rfl)) ?_
 refine RN.nil ?_
 refine hK3 _ _ ?_
 refine T.known 19 rfl (show _ = Value.bool false from rfl) ?_
 refine T.cond_f rfl ?_
 refine T.skip ?_
 refine hK2 _ _ ?_
 refine T.seq fun K4 hK4 => ?_
 refine T.region (l := [0, 1, 2, 3, 4, 5, 6]) rfl ?_
 refine RN.m rfl ?_
 refine RN.C [] rfl rfl rfl rfl (c_call rfl rfl) (New_A (sz : Int)) rfl ?_
 rintro v22 Ps22 hq22
 obtain ⟨a, rfl, rfl⟩ := NewA_yes hq22 (by omega)
 rw [Int.toNat_natCast]
 refine RN.m rfl ?_
 refine RN.p rfl (p_extract rfl rfl rfl) ?_
 refine RN.p rfl (p_extract rfl rfl rfl) ?_
 refine RN.a rfl ?_
 refine RN.a rfl ?_
 refine RN.nil ?_
 refine hK4 _ _ ?_
 refine T.seq fun K5 hK5 => ?_
 refine T.seq fun K6 hK6 => ?_
 refine T.region (l := [0, 1, 2, 3, 4, 5, 6, 7, 8, 9, 10]) rfl ?_
 refine RN.m rfl ?_
 refine RN.p rfl (p_neq rfl rfl rfl) ?_
 refine RN.m rfl ?_
 refine RN.known 27 rfl (show _ = Value.bool false from rfl) ?_
 refine RN.m rfl ?_
 refine RN.p rfl (p_gtr rfl rfl rfl) ?_
 refine RN.pf rfl ?_
 refine RN.m rfl ?_
 refine RN.known 31 rfl (show _ = Value.bool false from congrArg Value.bool (decide_eq_false (by omega))) ?_
 refine RN.m rfl ?_
 refine RN.p rfl (p_len rfl Tryz.underlying22 rfl) ?_
 refine RN.p rfl (p_gtr rfl rfl rfl) ?_
 refine RN.pf rfl ?_
 refine RN.nil ?_
 refine hK6 _ _ ?_
 refine T.known 35 rfl (show _ = Value.bool false from congrArg Value.bool (decide_eq_false (by omega))) ?_
 refine T.cond_f rfl ?_
 refine T.skip ?_
 refine hK5 _ _ ?_
 refine T.seq fun K7 hK7 => ?_
 refine T.region (l := [0, 1, 2, 3]) rfl ?_
 refine RN.m rfl ?_
 refine RN.m rfl ?_
 refine RN.m rfl ?_
 refine RN.C [0] rfl rfl rfl rfl (c_call rfl rfl) (Write_A a (List.replicate (sz * 32) 0) 0 sz first) rfl ?_
 rintro v39 _ ⟨hv39, rfl⟩
 have ht0 : (wrT (List.replicate (sz * 32) 0) 0 sz first).length = sz * 32 := by rw [wrT_length, List.length_replicate]
 refine RN.nil ?_
 refine hK7 _ _ ?_
 refine T.seq fun K8 hK8 => ?_
 refine T.region (l := [0, 1, 2, 3, 4, 5, 6, 7, 8, 9]) rfl ?_
 refine RN.m rfl ?_
 refine RN.C [] rfl rfl rfl rfl (c_call rfl rfl) (RNew_spec sz (by omega)) rfl ?_
 rintro _ _ ⟨rfl, rfl⟩
 refine RN.m rfl ?_
 refine RN.m rfl ?_
 refine RN.C [] rfl rfl rfl rfl (c_call rfl rfl) (RWrite_A (List.replicate (sz * 32) 0) 0 sz first (by rw [List.length_replicate]; omega) hfl) rfl ?_
 rintro _ _ ⟨rfl, rfl⟩
 refine RN.m rfl ?_
 refine RN.p rfl (p_extract rfl rfl rfl) ?_
 refine RN.p rfl (p_extract rfl rfl rfl) ?_
 refine RN.a rfl ?_
 refine RN.a rfl ?_
 refine RN.nil ?_
 refine hK8 _ _ ?_
 refine T.seq fun K9 hK9 => ?_
 refine T.region (l := [0, 1, 2, 3, 4, 5, 6, 7]) rfl ?_
 refine RN.m rfl ?_
 refine RN.p rfl (p_makeIfaceP rfl Tryz.underlying24 rfl) ?_
 refine RN.C [0] rfl rfl rfl rfl (c_call rfl rfl) (Open_no a sz (wrT (List.replicate (sz * 32) 0) 0 sz first) hs.2 ht0) rfl ?_
 rintro _ _ ⟨rfl, rfl⟩
 refine RN.m rfl ?_
 refine RN.p rfl (p_extract rfl rfl rfl) ?_
 refine RN.p rfl (p_extract rfl rfl rfl) ?_
 refine RN.a rfl ?_
 refine RN.a rfl ?_
 refine RN.nil ?_
 refine hK9 _ _ ?_
 refine T.seq fun K10 hK10 => ?_
 refine T.seq fun K11 hK11 => ?_
 refine T.region (l := [0, 1]) rfl ?_
 refine RN.m rfl ?_
 refine RN.p rfl (p_lss rfl rfl rfl) ?_
 refine RN.nil ?_
 refine hK11 _ _ ?_
 refine T.known 55 rfl (show _ = Value.bool true from congrArg Value.bool (decide_eq_true (by omega))) ?_
 refine T.cond_t rfl ?_
 refine T.seq fun K12 hK12 => ?_
 refine T.region (l := [0, 1, 2, 3, 4, 5, 6]) rfl ?_
 refine RN.m rfl ?_
 refine RN.p rfl (p_eql rfl rfl rfl) ?_
 refine RN.m rfl ?_
 refine RN.known 58 rfl (show _ = Value.bool true from rfl) ?_
 refine RN.m rfl ?_
 refine RN.p rfl (p_nileql_nil rfl rfl Tryz.underlying32) ?_
 refine RN.pt rfl ?_
 refine RN.a rfl ?_
 refine RN.nil ?_
 refine hK12 _ _ ?_
 refine T.ret ?_
 refine Post.seq_r ?_
 refine bodyQ_ret [old w0] (RetRun.tmp RetRun.nil) ⟨rfl, rfl⟩ (Ent.pull_drop (is := [1, 1]) rfl)

end Go.Proofs.YtbbgajjonodlfaaGreat
namespace Go.Proofs.YtbbgajjonodlfaaGreat
open Go Go.Sl Go.Proofs
set_option maxRecDepth 20000
open Go.Mo Go.Evl
theorem VolPlays_run (w0 : World) (sz : Nat) (first : List UInt8) (q : Option Addr) (scap : Nat) (cs : List VAct) (hfl : first.length ≤ 140737488351232) (hs : 9 ≤ sz ∧ sz ≤ 64) (hl : cs.length ≤ 25) (hq : 0 < cs.length → ∃ b off, q = some ⟨b, off, none⟩ ∧ ∀ i (hi : i < cs.length), At w0 b (off + i * 6) cs[i].cells) (hd : ∀ c ∈ cs, c.data.length ≤ 140737488351232) : Ctr Tryz.prog 3 [intV sz, strV first, .slice q cs.length scap] [old w0] (fun v Ps => v = .bool true ∧ Ps = [old w0]) := by
 refine Ctr.of_body Tryz.func3 rfl (by kernel_rfl) Tryz.ntmps3 rfl rfl (fun Fr => ?_)
 refine T.seq fun K1 hK1 => ?_
 refine T.region (l := [0]) rfl ?_
 refine RN.a rfl ?_
 refine RN.nil ?_
 refine hK1 _ _ ?_
 refine T.seq fun K2 hK2 => ?_
 refine T.seq fun K3 hK3 => ?_
 refine T.region (l := [0, 1]) rfl ?_
 refine RN.C [] rfl rfl rfl rfl (c_call rfl rfl) (awake25) rfl ?_
 rintro _ _ ⟨rfl, rfl⟩
 refine RN.p rfl (by exact (p_not rfl rfl)) ?_
 refine RN.nil ?_
 refine hK3 _ _ ?_
 refine T.known 19 rfl (show _ = Value.bool false from rfl) ?_
 refine T.cond_f rfl ?_
 refine T.skip ?_
 refine hK2 _ _ ?_
 refine T.seq fun K4 hK4 => ?_
 refine T.region (l := [0, 1, 2, 3, 4, 5, 6]) rfl ?_
 refine RN.m rfl ?_
 refine RN.C [] rfl rfl rfl rfl (c_call rfl rfl) (New_A (sz : Int)) rfl ?_
 rintro v22 Ps22 hq22
 obtain ⟨a, rfl, rfl⟩ := NewA_yes hq22 (by omega)
 rw [Int.toNat_natCast]
 refine RN.m rfl ?_
 refine RN.p rfl (p_extract rfl rfl rfl) ?_
 refine RN.p rfl (p_extract rfl rfl rfl) ?_
 refine RN.a rfl ?_
 refine RN.a rfl ?_
 refine RN.nil ?_
 refine hK4 _ _ ?_
 refine T.seq fun K5 hK5 => ?_
 refine T.seq fun K6 hK6 => ?_
 refine T.region (l := [0, 1, 2, 3, 4, 5, 6, 7, 8, 9, 10]) rfl ?_
 refine RN.m rfl ?_
 refine RN.p rfl (p_neq rfl rfl rfl) ?_
 refine RN.m rfl ?_
 refine RN.known 27 rfl (show _ = Value.bool false from rfl) ?_
 refine RN.m rfl ?_
 refine RN.p rfl (p_gtr rfl rfl rfl) ?_
 refine RN.pf rfl ?_
 refine RN.m rfl ?_
 refine RN.known 31 rfl (show _ = Value.bool false from congrArg Value.bool (decide_eq_false (by omega))) ?_
 refine RN.m rfl ?_
 refine RN.p rfl (p_len rfl Tryz.underlying22 rfl) ?_
 refine RN.p rfl (p_gtr rfl rfl rfl) ?_
 refine RN.pf rfl ?_
 refine RN.nil ?_
 refine hK6 _ _ ?_
 refine T.known 35 rfl (show _ = Value.bool false from congrArg Value.bool (decide_eq_false (by omega))) ?_
 refine T.cond_f rfl ?_
 refine T.skip ?_
 refine hK5 _ _ ?_
 refine T.seq fun K7 hK7 => ?_
 refine T.region (l := [0, 1, 2, 3]) rfl ?_
 refine RN.m rfl ?_
 refine RN.m rfl ?_
 refine RN.m rfl ?_
 refine RN.C [0] rfl rfl rfl rfl (c_call rfl rfl) (Write_A a (List.replicate (sz * 32) 0) 0 sz first) rfl ?_
 rintro v39 _ ⟨hv39, rfl⟩
 have ht0 : (wrT (List.replicate (sz * 32) 0) 0 sz first).length = sz * 32 := by rw [wrT_length, List.length_replicate]
 refine RN.nil ?_
 refine hK7 _ _ ?_
 refine T.seq fun K8 hK8 => ?_
 refine T.region (l := [0, 1, 2, 3, 4, 5, 6, 7, 8, 9]) rfl ?_
 refine RN.m rfl ?_
 refine RN.C [] rfl rfl rfl rfl (c_call rfl rfl) (RNew_spec sz (by omega)) rfl ?_
 rintro _ _ ⟨rfl, rfl⟩
 refine RN.m rfl ?_
 refine RN.m rfl ?_
 refine RN.C [] rfl rfl rfl rfl (c_call rfl rfl) (RWrite_A (List.replicate (sz * 32) 0) 0 sz first (by rw [List.length_replicate]; omega) hfl) rfl ?_
 rintro _ _ ⟨rfl, rfl⟩
 refine RN.m rfl ?_
 refine RN.p rfl (p_extract rfl rfl rfl) ?_
 refine RN.p rfl (p_extract rfl rfl rfl) ?_
 refine RN.a rfl ?_
 refine RN.a rfl ?_
 refine RN.nil ?_
 refine hK8 _ _ ?_
 refine T.seq fun K9 hK9 => ?_
 refine T.region (l := [0, 1, 2, 3, 4, 5, 6, 7]) rfl ?_
 refine RN.m rfl ?_
 refine RN.p rfl (p_makeIfaceP rfl Tryz.underlying24 rfl) ?_
 refine RN.C [0] rfl rfl rfl rfl (c_call rfl rfl) (Open_yes a sz (wrT (List.replicate (sz * 32) 0) 0 sz first) (by omega) ht0) rfl ?_
 rintro v51 _ ⟨s, rfl, rfl⟩
 refine RN.m rfl ?_
 refine RN.p rfl (p_extract rfl rfl rfl) ?_
 refine RN.p rfl (p_extract rfl rfl rfl) ?_
 refine RN.a rfl ?_
 refine RN.a rfl ?_
 refine RN.nil ?_
 refine hK9 _ _ ?_
 refine T.seq fun K10 hK10 => ?_
 refine T.seq fun K11 hK11 => ?_
 refine T.region (l := [0, 1]) rfl ?_
 refine RN.m rfl ?_
 refine RN.p rfl (p_lss rfl rfl rfl) ?_
 refine RN.nil ?_
 refine hK11 _ _ ?_
 refine T.known 55 rfl (show _ = Value.bool false from congrArg Value.bool (decide_eq_false (by omega))) ?_
 refine T.cond_f rfl ?_
 refine T.skip ?_
 refine hK10 _ _ ?_
 refine T.seq fun K12 hK12 => ?_
 refine T.seq fun K13 hK13 => ?_
 refine T.region (l := [0, 1, 2, 3, 4, 5, 6, 7, 8, 9, 10, 11]) rfl ?_
 refine RN.m rfl ?_
 refine RN.p rfl (p_neq rfl rfl rfl) ?_
 refine RN.m rfl ?_
 refine RN.known 64 rfl (show _ = Value.bool false from congrArg Value.bool (decide_eq_false (not_not_intro rfl))) ?_
 refine RN.m rfl ?_
 refine RN.p rfl (p_ptreql_nil rfl rfl rfl Tryz.underlying32) ?_
 refine RN.pf rfl ?_
 refine RN.m rfl ?_
 refine RN.known 68 rfl (show _ = Value.bool false from rfl) ?_
 refine RN.m rfl ?_
 refine RN.m rfl ?_
 refine RN.C [0] rfl rfl rfl rfl (c_call rfl rfl) (tells_spec s a sz (opE sz (wrT (List.replicate (sz * 32) 0) 0 sz first) 8) (wrT (List.replicate (sz * 32) 0) 0 sz first) (op_inv8 _ _) (rv_vols _ _ 8) ht0 (by omega)) rfl ?_
 rintro _ _ ⟨rfl, rfl⟩
 refine RN.p rfl (by exact (p_not rfl rfl)) ?_
 refine RN.pf rfl ?_
 refine RN.nil ?_
 refine hK13 _ _ ?_
 refine T.known 73 rfl (show _ = Value.bool false from rfl) ?_
 refine T.cond_f rfl ?_
 refine T.skip ?_
 refine hK12 _ _ ?_
 refine T.seq fun K14 hK14 => ?_
 refine T.seq fun K15 hK15 => ?_
 refine T.region (l := [0, 1]) rfl ?_
 refine RN.m rfl ?_
 refine RN.C [] rfl rfl rfl rfl (c_call rfl rfl) (Shadowed_spec (wrT (List.replicate (sz * 32) 0) 0 sz first) sz ht0 (by omega)) rfl ?_
 rintro _ _ ⟨rfl, rfl⟩
 refine RN.nil ?_
 refine hK15 _ _ ?_
 refine T.cond_dec rfl (fun h75 => ?_) (fun h75 => ?_)
 ·
  refine T.seq fun K16 hK16 => ?_
  refine T.region (l := [0]) rfl ?_
  refine RN.a rfl ?_
  refine RN.nil ?_
  refine hK16 _ _ ?_
  refine T.ret ?_
  refine Post.seq_r ?_
  refine bodyQ_ret [old w0] (RetRun.tmp RetRun.nil) ⟨rfl, rfl⟩ (Ent.pull_drop (is := [2, 2]) rfl)
 ·
  have hcl := clean_of ht0 (by omega) (show cntE sz (wrT (List.replicate (sz * 32) 0) 0 sz first) 8 = (rvE sz (wrT (List.replicate (sz * 32) 0) 0 sz first) 8).length by omega)
  refine T.skip ?_
  refine hK14 _ _ ?_
  refine T.seq fun K17 hK17 => ?_
  refine T.seq fun K18 hK18 => ?_
  refine T.region (l := [0]) rfl ?_
  refine RN.a rfl ?_
  refine RN.nil ?_
  refine hK18 _ _ ?_
  refine T.block ?_
  refine T.loop (G := Nat × Nat × List VE × List UInt8) (fun ⟨i, s, es, t⟩ => i ≤ cs.length ∧ Go.Mo.Clean sz es t) (fun ⟨i, s, es, t⟩ => [(0, intV sz), (2, .slice q cs.length scap), (7, ptr a 0), (9, strV t), (11, ptr s 0), (12, intV i)]) (fun ⟨i, s, es, t⟩ => [row s 72 (stC 24 a sz es), arrA 63 57 5 a t, old w0, Fr]) (fun ⟨i, s, es, t⟩ => cs.length - i) (0, s, opE sz (wrT (List.replicate (sz * 32) 0) 0 sz first) 8, (wrT (List.replicate (sz * 32) 0) 0 sz first)) ⟨Nat.zero_le _, hcl⟩ (LiveIs.cons rfl (LiveIs.cons rfl (LiveIs.cons rfl (LiveIs.cons rfl (LiveIs.cons rfl (LiveIs.cons rfl LiveIs.nil)))))) (Ent.refl _) ?_
  rintro ⟨i, s, es, t⟩ e19 ⟨hik, h⟩
  dsimp only
  refine T.seq fun K20 hK20 => ?_
  refine T.seq fun K21 hK21 => ?_
  refine T.region (l := [0, 1, 2, 3]) rfl ?_
  refine RN.m rfl ?_
  refine RN.m rfl ?_
  refine RN.p rfl (p_len rfl Tryz.underlying22 rfl) ?_
  refine RN.p rfl (p_lss rfl rfl rfl) ?_
  refine RN.nil ?_
  refine hK21 _ _ ?_
  refine T.cond_dec rfl (fun h79 => ?_) (fun h79 => ?_)
  ·
   have hi : i < cs.length := by omega
   obtain ⟨sb, so, rfl, hat⟩ := hq (by omega)
   refine T.skip ?_
   refine hK20 _ _ ?_
   refine T.seq fun K22 hK22 => ?_
   refine T.block ?_
   refine T.seq fun K23 hK23 => ?_
   refine T.seq fun K24 hK24 => ?_
   refine T.region (l := [0, 1, 2, 3, 4, 5]) rfl ?_
   refine RN.m rfl ?_
   refine RN.m rfl ?_
   refine RN.p rfl (by exact (p_indexAddrN rfl Tryz.underlying22 ts_38 rfl rfl (by omega))) ?_
   refine RN.p rfl (p_fieldAddr rfl fa_38_0 rfl) ?_
   refine RN.u rfl (QRun.ent ((Ent.pull_drop (is := [2]) rfl).trans (Ent.cons (old_cellsAt (hat i hi)) (Ent.refl _))) (q_load1C (k := 0) rfl sc_3 rfl (i := 0) rfl rfl)) ?_
   refine RN.p rfl (p_eql rfl rfl rfl) ?_
   refine RN.nil ?_
   refine hK24 _ _ ?_
   refine T.cond_dec rfl (fun h87 => ?_) (fun h87 => ?_)
   ·
    refine T.seq fun K25 hK25 => ?_
    refine T.region (l := [0, 1, 2, 3, 4, 5, 6, 7]) rfl ?_
    refine RN.m rfl ?_
    refine RN.p rfl (p_makeIfaceP rfl Tryz.underlying24 rfl) ?_
    refine RN.C [1] rfl rfl rfl rfl (c_call rfl rfl) (Open_yes a sz t h.c9 h.tl) rfl ?_
    rintro v91 _ ⟨s2, rfl, rfl⟩
    have hcl2 := clean_of h.tl h.c9 h.count
    have hvv := rv_vols sz t 8
    generalize opE sz t 8 = e2 at hcl2 hvv ⊢
    refine RN.m rfl ?_
    refine RN.p rfl (p_extract rfl rfl rfl) ?_
    refine RN.p rfl (p_extract rfl rfl rfl) ?_
    refine RN.a rfl ?_
    refine RN.a rfl ?_
    refine RN.nil ?_
    refine hK25 _ _ ?_
    refine T.seq fun K26 hK26 => ?_
    refine T.seq fun K27 hK27 => ?_
    refine T.region (l := [0, 1, 2, 3, 4, 5, 6, 7, 8, 9, 10, 11]) rfl ?_
    refine RN.m rfl ?_
    refine RN.p rfl (p_neq rfl rfl rfl) ?_
    refine RN.m rfl ?_
    refine RN.known 96 rfl (show _ = Value.bool false from congrArg Value.bool (decide_eq_false (not_not_intro rfl))) ?_
    refine RN.m rfl ?_
    refine RN.p rfl (p_ptreql_nil rfl rfl rfl Tryz.underlying32) ?_
    refine RN.pf rfl ?_
    refine RN.m rfl ?_
    refine RN.known 100 rfl (show _ = Value.bool false from rfl) ?_
    refine RN.m rfl ?_
    refine RN.m rfl ?_
    refine RN.C [0] rfl rfl rfl rfl (c_call rfl rfl) (tells_spec s2 a sz e2 t hcl2.v hvv h.tl h.c9) rfl ?_
    rintro _ _ ⟨rfl, rfl⟩
    refine RN.p rfl (by exact (p_not rfl rfl)) ?_
    refine RN.pf rfl ?_
    refine RN.nil ?_
    refine hK27 _ _ ?_
    refine T.known 105 rfl (show _ = Value.bool false from rfl) ?_
    refine T.cond_f rfl ?_
    refine T.skip ?_
    refine hK26 _ _ ?_
    refine T.exit ?_
    refine Post.seq_x ?_
    refine Post.block_hit ?_
    refine hK22 _ _ ?_
    refine T.region (l := [0, 1, 2]) rfl ?_
    refine RN.m rfl ?_
    refine RN.p rfl (by exact (p_addN (b := 1) rfl rfl rfl (by omega))) ?_
    refine RN.a rfl ?_
    refine RN.nil ?_
    refine ⟨(i + 1, s2, e2, t), ⟨by omega, hcl2⟩, (by simp; omega), (LiveIs.cons rfl (LiveIs.cons rfl (LiveIs.cons rfl (LiveIs.cons rfl (LiveIs.cons rfl (LiveIs.cons rfl LiveIs.nil)))))), (Ent.pull_drop (is := [0, 0, 1, 1]) rfl)⟩
   ·
    have h2 := step_clean h cs[i]
    refine T.skip ?_
    refine hK23 _ _ ?_
    refine T.seq fun K28 hK28 => ?_
    refine T.region (l := [0, 1, 2, 3, 4, 5, 6, 7, 8, 9, 10]) rfl ?_
    refine RN.m rfl ?_
    refine RN.m rfl ?_
    refine RN.m rfl ?_
    refine RN.p rfl (by exact (p_indexAddrN rfl Tryz.underlying22 ts_38 rfl rfl (by omega))) ?_
    refine RN.u rfl (QRun.ent ((Ent.pull_drop (is := [2]) rfl).trans (Ent.cons (old_cellsAt (hat i hi)) (Ent.refl _))) (q_loadC rfl ag_38 ts_38 rfl (i := 0) rfl rfl)) ?_
    refine RN.C [0, 0] rfl rfl rfl rfl (c_call rfl rfl) (step_spec s a sz es t cs[i] h.v h.c9 h.tl) rfl ?_
    rintro _ _ ⟨rfl, rfl⟩
    refine RN.m rfl ?_
    refine RN.p rfl (p_extract rfl rfl rfl) ?_
    refine RN.p rfl (p_extract rfl rfl rfl) ?_
    refine RN.a rfl ?_
    refine RN.a rfl ?_
    refine RN.nil ?_
    refine hK28 _ _ ?_
    refine T.seq fun K29 hK29 => ?_
    refine T.region (l := [0, 1, 2, 3, 4, 5, 6, 7, 8, 9, 10, 11, 12]) rfl ?_
    refine RN.m rfl ?_
    refine RN.m rfl ?_
    refine RN.m rfl ?_
    refine RN.p rfl (by exact (p_indexAddrN rfl Tryz.underlying22 ts_38 rfl rfl (by omega))) ?_
    refine RN.u rfl (QRun.ent ((Ent.pull_drop (is := [2]) rfl).trans (Ent.cons (old_cellsAt (hat i hi)) (Ent.refl _))) (q_loadC rfl ag_38 ts_38 rfl (i := 0) rfl rfl)) ?_
    refine RN.C [] rfl rfl rfl rfl (c_call rfl rfl) (own_spec t sz es h cs[i] (hd _ (List.getElem_mem hi))) rfl ?_
    rintro _ _ ⟨rfl, rfl⟩
    refine RN.m rfl ?_
    refine RN.p rfl (p_extract rfl rfl rfl) ?_
    refine RN.p rfl (p_extract rfl rfl rfl) ?_
    refine RN.p rfl (p_extract rfl rfl rfl) ?_
    refine RN.a rfl ?_
    refine RN.a rfl ?_
    refine RN.a rfl ?_
    refine RN.nil ?_
    refine hK29 _ _ ?_
    refine T.seq fun K30 hK30 => ?_
    refine T.region (l := [0, 1]) rfl ?_
    refine RN.m rfl ?_
    refine RN.a rfl ?_
    refine RN.nil ?_
    refine hK30 _ _ ?_
    refine T.seq fun K31 hK31 => ?_
    refine T.region (l := [0, 1, 2, 3, 4, 5, 6, 7, 8, 9, 10, 11, 12, 13, 14, 15, 16, 17, 18, 19]) rfl ?_
    refine RN.m rfl ?_
    refine RN.m rfl ?_
    refine RN.p rfl (p_neq rfl rfl rfl) ?_
    refine RN.m rfl ?_
    refine RN.known 129 rfl (show _ = Value.bool false from congrArg Value.bool (decide_eq_false (not_not_intro rfl))) ?_
    refine RN.m rfl ?_
    refine RN.m rfl ?_
    refine RN.p rfl (p_sneq rfl rfl rfl) ?_
    refine RN.pf rfl ?_
    refine RN.m rfl ?_
    refine RN.known 134 rfl (show _ = Value.bool false from congrArg Value.bool (decide_eq_false (not_not_intro rfl))) ?_
    refine RN.m rfl ?_
    refine RN.C [1] rfl rfl rfl rfl (c_call rfl rfl) (Content_A a (stepV sz es t cs[i]).2.2.2) rfl ?_
    rintro _ _ ⟨rfl, rfl⟩
    refine RN.m rfl ?_
    refine RN.p rfl (p_sneq rfl rfl rfl) ?_
    refine RN.pf rfl ?_
    refine RN.m rfl ?_
    refine RN.known 140 rfl (show _ = Value.bool false from congrArg Value.bool (decide_eq_false (not_not_intro rfl))) ?_
    refine RN.m rfl ?_
    refine RN.m rfl ?_
    refine RN.C [1] rfl rfl rfl rfl (c_call rfl rfl) (tells_spec s a sz (stepV sz es t cs[i]).2.2.1 (stepV sz es t cs[i]).2.2.2 h2.v (Go.Mo.Clean.vols h2) h2.tl h2.c9) rfl ?_
    rintro _ _ ⟨rfl, rfl⟩
    refine RN.p rfl (by exact (p_not rfl rfl)) ?_
    refine RN.pf rfl ?_
    refine RN.nil ?_
    refine hK31 _ _ ?_
    refine T.known 145 rfl (show _ = Value.bool false from rfl) ?_
    refine T.cond_f rfl ?_
    refine T.skip ?_
    refine hK22 _ _ ?_
    refine T.region (l := [0, 1, 2]) rfl ?_
    refine RN.m rfl ?_
    refine RN.p rfl (by exact (p_addN (b := 1) rfl rfl rfl (by omega))) ?_
    refine RN.a rfl ?_
    refine RN.nil ?_
    refine ⟨(i + 1, s, (stepV sz es t cs[i]).2.2.1, (stepV sz es t cs[i]).2.2.2), ⟨by omega, h2⟩, (by simp; omega), (LiveIs.cons rfl (LiveIs.cons rfl (LiveIs.cons rfl (LiveIs.cons rfl (LiveIs.cons rfl (LiveIs.cons rfl LiveIs.nil)))))), (Ent.pull_drop (is := [0, 0, 0, 0]) rfl)⟩
  ·
   refine T.exit ?_
   refine Post.seq_x ?_
   refine Post.seq_x ?_
   refine Post.block_hit ?_
   refine hK17 _ _ ?_
   refine T.seq fun K32 hK32 => ?_
   refine T.region (l := [0]) rfl ?_
   refine RN.a rfl ?_
   refine RN.nil ?_
   refine hK32 _ _ ?_
   refine T.ret ?_
   refine bodyQ_ret [old w0] (RetRun.tmp RetRun.nil) ⟨rfl, rfl⟩ (Ent.pull_drop (is := [2, 2]) rfl)

end Go.Proofs.YtbbgajjonodlfaaGreat
namespace Go.Proofs.YtbbgajjonodlfaaGreat
open Go Go.Sl Go.Mo Go.Proofs Go.ChangeShapes
theorem str_strV (s : ByteArray) : Value.string s = strV s.data.toList := by
  cases s with
  | mk d => show Value.string ⟨d⟩ = Value.string ⟨d.toList.toArray⟩; simp
theorem list6 {α : Type} {l : List α} (h : l.length = 6) : ∃ a b c d e f, l = [a, b, c, d, e, f] := by
  match l, h with
  | [a, b, c, d, e, f], _ => exact ⟨a, b, c, d, e, f, rfl⟩
theorem vact_of {H : Type} {enc : TypeId × Value → H} {W : World} {sp : Nat → Bool} {held : Bool} {m : Nat} {c : List Value} {x : DataW H × List MemPlace} (h : DataW.trod enc Tryz.prog W 0 sp held m 38 c = some x) :
    ∃ k : VAct, c = k.cells ∧ k.data.length ∈ x.1.weights Tryz.prog 38 := by
  obtain ⟨xs, n, _, hx, hl, hn, hf⟩ := DataW.trod_struct Tryz.underlying38 h
  have h3 : Tryz.prog.cellsOf 3 = 1 := by kernel_rfl
  have h9 : Tryz.prog.cellsOf 9 = 1 := by kernel_rfl
  have hl6 : c.length = 6 := hl.trans (by kernel_rfl)
  obtain ⟨c0, c1, c2, c3, c4, c5, rfl⟩ := list6 hl6
  obtain ⟨x0, x1, x2, x3, x4, x5, rfl⟩ := list6 (show xs.length = 6 from hn)
  have f0 : DataW.trod enc Tryz.prog W 0 sp held n 3 (([c0, c1, c2, c3, c4, c5].drop 0).take (Tryz.prog.cellsOf 3)) = some x0 := hf 0 _ rfl
  have f1 : DataW.trod enc Tryz.prog W 0 sp held n 3 (([c0, c1, c2, c3, c4, c5].drop 1).take (Tryz.prog.cellsOf 3)) = some x1 := hf 1 _ rfl
  have f2 : DataW.trod enc Tryz.prog W 0 sp held n 3 (([c0, c1, c2, c3, c4, c5].drop 2).take (Tryz.prog.cellsOf 3)) = some x2 := hf 2 _ rfl
  have f3 : DataW.trod enc Tryz.prog W 0 sp held n 3 (([c0, c1, c2, c3, c4, c5].drop 3).take (Tryz.prog.cellsOf 3)) = some x3 := hf 3 _ rfl
  have f4 : DataW.trod enc Tryz.prog W 0 sp held n 3 (([c0, c1, c2, c3, c4, c5].drop 4).take (Tryz.prog.cellsOf 3)) = some x4 := hf 4 _ rfl
  have f5 : DataW.trod enc Tryz.prog W 0 sp held n 9 (([c0, c1, c2, c3, c4, c5].drop 5).take (Tryz.prog.cellsOf 9)) = some x5 := hf 5 _ rfl
  rw [h3] at f0 f1 f2 f3 f4
  rw [h9] at f5
  obtain ⟨n0, e0, _, _⟩ := DataW.trod_int Tryz.underlying3 (x := x0) f0
  obtain ⟨n1, e1, _, _⟩ := DataW.trod_int Tryz.underlying3 (x := x1) f1
  obtain ⟨n2, e2, _, _⟩ := DataW.trod_int Tryz.underlying3 (x := x2) f2
  obtain ⟨n3, e3, _, _⟩ := DataW.trod_int Tryz.underlying3 (x := x3) f3
  obtain ⟨n4, e4, _, _⟩ := DataW.trod_int Tryz.underlying3 (x := x4) f4
  obtain ⟨s, e5, e5', _⟩ := DataW.trod_string Tryz.underlying9 (x := x5) f5
  simp at e0 e1 e2 e3 e4 e5
  subst e0 e1 e2 e3 e4 e5 e5' hx
  refine ⟨⟨n0, n1, n2, n3, n4, s.data.toList⟩, ?_, ?_⟩
  · simp only [VAct.cells, str_strV]
  · simp only [DataW.weights, Tryz.underlying38, List.map_cons, DataW.weightsEach, List.mem_append]
    simp [DataW.weights]
theorem vacts_of {H : Type} {enc : TypeId × Value → H} {W : World} {sp : Nat → Bool} {held : Bool} {v : Value} {d : DataW H} {p : List MemPlace} (hv : ∃ a n c, v = .slice a n c) (h : DataW.Trod enc Tryz.prog W 0 sp held 22 v d p) (hw : ∀ n ∈ d.weights Tryz.prog 22, n ≤ 140737488351232) :
    ∃ (q : Option Addr) (scap : Nat) (cs : List VAct), v = .slice q cs.length scap ∧ (0 < cs.length → ∃ b off, q = some ⟨b, off, none⟩ ∧ ∀ i (hi : i < cs.length), At W b (off + i * 6) cs[i].cells) ∧ (∀ c ∈ cs, c.data.length ≤ 140737488351232) := by
  obtain ⟨q, cap, l, rfl, _, hq, hl⟩ := open_cells Tryz.underlying22 (show Tryz.prog.cellsOf 38 = 6 by kernel_rfl) (by decide) hv h
  obtain ⟨cs, hlen, hr⟩ := pick_list (R := fun (c : List Value) (k : VAct) => c = k.cells ∧ k.data.length ≤ 140737488351232) (l := l) (fun c hc => by
    obtain ⟨m, x, hx, hwt⟩ := hl c hc
    obtain ⟨k, hk, hkd⟩ := vact_of hx
    exact ⟨k, hk, hw _ (hwt _ hkd)⟩)
  refine ⟨q, cap, cs, by rw [hlen], fun h0 => ?_, fun c hc => ?_⟩
  · obtain ⟨b, off, rfl, hat⟩ := hq (by omega)
    refine ⟨b, off, rfl, fun i hi => ?_⟩
    have := hat i (by omega)
    rwa [(hr i (by omega) hi).1] at this
  · obtain ⟨i, hi, rfl⟩ := List.getElem_of_mem hc
    exact (hr i (by omega) hi).2
end Go.Proofs.YtbbgajjonodlfaaGreat
namespace Go.Proofs.YtbbgajjonodlfaaGreat.volPlays
open Go Go.ChangeShapes Go.WideShapes Go.ChangeAt Go.RowKit Go.Sl Go.Mo
theorem VolPlays_spec (w0 : World) (size : Int) (first : List UInt8) (q : Option Addr) (scap : Nat) (cs : List VAct) (hfl : first.length ≤ 140737488351232) (hq : 0 < cs.length → ∃ b off, q = some ⟨b, off, none⟩ ∧ ∀ i (hi : i < cs.length), At w0 b (off + i * 6) cs[i].cells) (hd : ∀ c ∈ cs, c.data.length ≤ 140737488351232) :
    Ctr Tryz.prog 3 [.int .i64 size, strV first, .slice q cs.length scap] [old w0] (fun v Ps => v = .bool true ∧ Ps = [old w0]) := by
  by_cases h1 : size < 1 ∨ 512 < size
  · exact VolPlays_bad w0 size first q scap cs hfl h1
  by_cases h2 : 25 < cs.length ∨ 64 < size
  · exact VolPlays_skip w0 size first q scap cs hfl (by omega) h2
  obtain ⟨sz, rfl⟩ := Int.eq_ofNat_of_zero_le (show 0 ≤ size by omega)
  by_cases h3 : sz ≤ 8
  · exact VolPlays_few w0 sz first q scap cs hfl (by omega) (by omega)
  exact VolPlays_run w0 sz first q scap cs hfl (by omega) (by omega) hq hd
theorem own : ownKnob Tryz.prog.godebug = none := by kernel_rfl
theorem laidOut : laidOutB Tryz.prog = true := by kernel_rfl
set_option maxRecDepth 100000 in
theorem lifted (os : Os) (started : os.Started) (H : Type) (enc : TypeId × Value → H) :
    ReturnsInHanded {} Tryz.checked os 3 .any (Rows.volPlaysSpec.pre6 enc Tryz.prog Tryz.f3 Rows.volPlaysRow.domain false) (Rows.volPlaysSpec.post enc Tryz.prog Tryz.f3 false true false false) := by
  refine returnsInHanded_of_change_sized (C := Tryz.checked) own started (by kernel_rfl) Tryz.func3
    (ChangeSpec.witness6 (enc := enc) (C := Tryz.checked) false ⟨#[], #[.int .i64 0, .string ⟨#[]⟩, .slice none 0 0], []⟩ 8 (by kernel_rfl) (by kernel_rfl) (by kernel_rfl) (by kernel_rfl)) ?_
  intro W base args ds gs before hval0 hW hcnd hsz _
  have hval : ∀ (j : Nat) t v, Tryz.f3.params[j]? = some t → args[j]? = some v → Value.okWide Tryz.prog W .any base t v := hval0
  have hW' := hW
  obtain ⟨p, q, hA0, hV, rfl, hfz, hnd⟩ := hW
  have hA : DataW.TrodAll enc Tryz.prog W 0 (fun _ => true) true Tryz.f3.params.toList args.toList ds p := hA0
  rw [Tryz.params3] at hA hval
  obtain ⟨v0, vs0, d0, ds0, p0, q0, hargs, rfl, rfl, h0, r0⟩ := trodAll_cons hA
  obtain ⟨v1, vs1, d1, ds1, p1, q1, rfl, rfl, rfl, h1, r1⟩ := trodAll_cons r0
  obtain ⟨v2, vs2, d2, ds2, p2, q2, rfl, rfl, rfl, h2, r2⟩ := trodAll_cons r1
  obtain ⟨rfl, rfl, rfl⟩ := trodAll_nil r2
  obtain rfl : args = #[v0, v1, v2] := by cases args; simp_all
  obtain ⟨rfl, rfl⟩ := trodVars_none hV
  obtain ⟨a0, rfl, _, _, _⟩ := open_int Tryz.underlying3 (hval 0 3 v0 rfl rfl) h0
  obtain ⟨s1, rfl, e1, _, _⟩ := Go.ChangeMaps.open_string Tryz.underlying9 (hval 1 9 v1 rfl rfl) h1
  have hfl : s1.data.toList.length ≤ 140737488351232 := by
    have h5 := List.all_eq_true.1 hsz s1.data.toList.length (DataW.weights_mem_each (j := 1) (t := 9) (d := d1) (by rw [show Tryz.checked.prog = Tryz.prog from rfl, Tryz.params3]; rfl) rfl _ (by rw [e1]; simp [DataW.weights]))
    exact of_decide_eq_true h5
  obtain ⟨qq, scap, cs, rfl, hq, hd⟩ := vacts_of (okWide_slice Tryz.underlying22 (hval 2 22 v2 rfl rfl)) h2 (fun n hn => by
    have h5 := List.all_eq_true.1 hsz n (DataW.weights_mem_each (j := 2) (t := 22) (d := d2) (by rw [show Tryz.checked.prog = Tryz.prog from rfl, Tryz.params3]; rfl) rfl n hn)
    exact of_decide_eq_true h5)
  refine (Ctr.calls1 W (VolPlays_spec W a0 s1.data.toList qq scap cs hfl hq hd)).mono fun e W' ⟨he, hb⟩ => ?_
  subst he
  exact ⟨_, rfl, post_law hW' laidOut (by kernel_rfl) rfl rfl Tryz.underlying4 rfl rfl rfl hb⟩
theorem proved : Rows.VolPlaysSaid :=
  OpenClaim.holds_of_wide 3 Tryz.f3 rfl rfl rfl rfl rfl rfl rfl ⟨rfl, rfl, rfl, rfl, rfl⟩ rfl rfl rfl rfl rfl (by kernel_rfl) Tryz.func3 (by kernel_rfl)
    (of_decide_eq_true (by kernel_rfl)) (by unfold Func.isWrapper; first | (rw [if_pos (by decide +kernel)]; kernel_rfl) | (rw [if_neg (by decide +kernel)]; exact ⟨rfl, rfl⟩))
    (fun os started H enc _ => lifted os started H enc)
#print axioms proved
end Go.Proofs.YtbbgajjonodlfaaGreat.volPlays
