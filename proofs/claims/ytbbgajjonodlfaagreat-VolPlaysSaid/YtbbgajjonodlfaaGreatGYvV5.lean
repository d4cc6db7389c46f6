/-
 Volumes: walked.
-/
import Derived.Test.YtbbgajjonodlfaaGreatGYvV2
import Derived.Test.YtbbgajjonodlfaaGreatGYvV3
import Derived.Test.YtbbgajjonodlfaaGreatGModelVo
import Derived.Test.YtbbgajjonodlfaaGreatGYvM1
import Derived.Test.YtbbgajjonodlfaaGreatGSl26
set_option linter.unusedVariables false
set_option linter.unusedSimpArgs false
namespace Go.Proofs.YtbbgajjonodlfaaGreat
open Go Go.Sl Go.Proofs
set_option maxRecDepth 20000
open Go.Mo Go.Evl
theorem place_spec (s a c : Nat) (es : List VE) (name : List UInt8) (at_ n : Int) (hv : VInv c es) (hc : 9 ≤ c ∧ c ≤ 512) : Ctr Tryz.prog 44 [ptr s 0, strV name, .int .i64 at_, .int .i64 n] [row s 72 (stC 24 a c es)] (fun v Ps => v = .tuple #[.int .i64 (plcE es name at_ n).1, .int .i64 (plcE es name at_ n).2] ∧ Ps = [row s 72 (stC 24 a c es)]) := by
 refine Ctr.of_body Tryz.func44 rfl (by kernel_rfl) Tryz.ntmps44 rfl rfl (fun Fr => ?_)
 have hes := hv.len
 refine T.seq fun K1 hK1 => ?_
 refine T.region (l := [0, 1]) rfl ?_
 refine RN.a rfl ?_
 refine RN.a rfl ?_
 refine RN.nil ?_
 refine hK1 _ _ ?_
 refine T.seq fun K2 hK2 => ?_
 refine T.region (l := [0, 1, 2, 3, 4, 5, 6, 7]) rfl ?_
 refine RN.m rfl ?_
 refine RN.m rfl ?_
 refine RN.C [0] rfl rfl rfl rfl (c_call rfl rfl) (find_spec s a c es name hes) rfl ?_
 rintro _ _ ⟨rfl, rfl⟩
 refine RN.m rfl ?_
 refine RN.p rfl (p_extract rfl rfl rfl) ?_
 refine RN.p rfl (p_extract rfl rfl rfl) ?_
 refine RN.a rfl ?_
 refine RN.a rfl ?_
 refine RN.nil ?_
 refine hK2 _ _ ?_
 refine T.seq fun K3 hK3 => ?_
 refine T.seq fun K4 hK4 => ?_
 refine T.region (l := [0, 1]) rfl ?_
 refine RN.m rfl ?_
 refine RN.p rfl (by exact (p_not rfl rfl)) ?_
 refine RN.nil ?_
 refine hK4 _ _ ?_
 refine T.cond rfl (fun h20 => ?_) (fun h20 => ?_)
 ·
  have hf : findE es name = none := by cases hq : findE es name with
  | none => rfl
  | some j => rw [hq] at h20; cases h20
  refine T.seq fun K5 hK5 => ?_
  refine T.region (l := [0, 1]) rfl ?_
  refine RN.a rfl ?_
  refine RN.a rfl ?_
  refine RN.nil ?_
  refine hK5 _ _ ?_
  refine T.ret ?_
  refine Post.seq_r ?_
  refine bodyQ_ret [row s 72 (stC 24 a c es)] (RetRun.tmp (RetRun.tmp RetRun.nil)) ⟨by rw [plc_none hf]; rfl, rfl⟩ (Ent.refl _)
 ·
  obtain ⟨i, hf⟩ : ∃ j, findE es name = some j := by
   cases hq : findE es name with
   | none => rw [hq] at h20; cases h20
   | some j => exact ⟨j, rfl⟩
  obtain ⟨hi8, hil, hin⟩ := findE_is hf
  refine T.known 10 rfl (show _ = intV i from congrArg intV (find_getD hf)) ?_
  refine T.skip ?_
  refine hK3 _ _ ?_
  refine T.seq fun K6 hK6 => ?_
  refine T.region (l := [0, 1, 2, 3, 4, 5, 6, 7]) rfl ?_
  refine RN.m rfl ?_
  refine RN.m rfl ?_
  refine RN.p rfl (p_nilCheck rfl rfl) ?_
  refine RN.p rfl (p_fieldAddr rfl fa_72_2 rfl) ?_
  refine RN.p rfl (by exact (p_indexAddrN_a rfl Tryz.underlying70 ts_49 rfl rfl (by omega))) ?_
  refine RN.u rfl (q_loadA rfl ag_49 ts_49 rfl (i := 0) rfl (by rw [stC_length hes]; omega) (stC_get hi8)) ?_
  refine RN.E rfl rfl rfl rfl (e_alloc rfl ti_49) ?_
  rintro _ _ ⟨b12, rfl, rfl⟩
  refine RN.EN rfl rfl rfl (by exact (e_storeA rfl ts_49 rfl rfl rfl (VE.cells_one _) (i := 0) rfl (by (simp; done)))) ?_
  rintro _ _ ⟨rfl, rfl⟩
  refine RN.nil ?_
  refine hK6 _ _ ?_
  refine T.seq fun K7 hK7 => ?_
  refine T.seq fun K8 hK8 => ?_
  refine T.region (l := [0, 1, 2, 3, 4, 5, 6, 7, 8, 9, 10, 11, 12, 13, 14, 15, 16, 17, 18, 19]) rfl ?_
  refine RN.m rfl ?_
  refine RN.p rfl (p_lss rfl rfl rfl) ?_
  refine RN.m rfl ?_
  refine RN.split_dec 29 rfl (fun h29 => ?_) (fun h29 => ?_)
  ·
   refine RN.no0 rfl ?_
   refine RN.no0 rfl ?_
   refine RN.no0 rfl ?_
   refine RN.no0 rfl ?_
   refine RN.pt rfl ?_
   refine RN.m rfl ?_
   refine RN.no0 rfl ?_
   refine RN.no0 rfl ?_
   refine RN.pt rfl ?_
   refine RN.m rfl ?_
   refine RN.no0 rfl ?_
   refine RN.no0 rfl ?_
   refine RN.no0 rfl ?_
   refine RN.no0 rfl ?_
   refine RN.no0 rfl ?_
   refine RN.no0 rfl ?_
   refine RN.pt rfl ?_
   refine RN.nil ?_
   refine hK8 _ _ ?_
   refine T.cond_t rfl ?_
   refine T.seq fun K9 hK9 => ?_
   refine T.region (l := [0, 1]) rfl ?_
   refine RN.a rfl ?_
   refine RN.a rfl ?_
   refine RN.nil ?_
   refine hK9 _ _ ?_
   refine T.ret ?_
   refine Post.seq_r ?_
   refine bodyQ_ret [row s 72 (stC 24 a c es)] (RetRun.tmp (RetRun.tmp RetRun.nil)) ⟨by rw [plc_no hf hi8 (fun h => by unfold Right at h; omega)]; rfl, rfl⟩ (Ent.drop _ _)
  ·
   refine RN.m rfl ?_
   refine RN.p rfl (p_fieldAddr rfl fa_49_2 rfl) ?_
   refine RN.u rfl (by exact (q_load rfl sc_3 rfl (i := 0) rfl rfl)) ?_
   refine RN.p rfl (p_gtr rfl rfl rfl) ?_
   refine RN.pf rfl ?_
   refine RN.m rfl ?_
   refine RN.split_dec 35 rfl (fun h35 => ?_) (fun h35 => ?_)
   ·
    refine RN.no0 rfl ?_
    refine RN.no0 rfl ?_
    refine RN.pt rfl ?_
    refine RN.m rfl ?_
    refine RN.no0 rfl ?_
    refine RN.no0 rfl ?_
    refine RN.no0 rfl ?_
    refine RN.no0 rfl ?_
    refine RN.no0 rfl ?_
    refine RN.no0 rfl ?_
    refine RN.pt rfl ?_
    refine RN.nil ?_
    refine hK8 _ _ ?_
    refine T.cond_t rfl ?_
    refine T.seq fun K10 hK10 => ?_
    refine T.region (l := [0, 1]) rfl ?_
    refine RN.a rfl ?_
    refine RN.a rfl ?_
    refine RN.nil ?_
    refine hK10 _ _ ?_
    refine T.ret ?_
    refine Post.seq_r ?_
    refine bodyQ_ret [row s 72 (stC 24 a c es)] (RetRun.tmp (RetRun.tmp RetRun.nil)) ⟨by rw [plc_no hf hi8 (fun h => by unfold Right at h; omega)]; rfl, rfl⟩ (Ent.drop _ _)
   ·
    refine RN.m rfl ?_
    refine RN.p rfl (p_lss rfl rfl rfl) ?_
    refine RN.pf rfl ?_
    refine RN.m rfl ?_
    refine RN.split_dec 39 rfl (fun h39 => ?_) (fun h39 => ?_)
    ·
     refine RN.no0 rfl ?_
     refine RN.no0 rfl ?_
     refine RN.no0 rfl ?_
     refine RN.no0 rfl ?_
     refine RN.no0 rfl ?_
     refine RN.no0 rfl ?_
     refine RN.pt rfl ?_
     refine RN.nil ?_
     refine hK8 _ _ ?_
     refine T.cond_t rfl ?_
     refine T.seq fun K11 hK11 => ?_
     refine T.region (l := [0, 1]) rfl ?_
     refine RN.a rfl ?_
     refine RN.a rfl ?_
     refine RN.nil ?_
     refine hK11 _ _ ?_
     refine T.ret ?_
     refine Post.seq_r ?_
     refine bodyQ_ret [row s 72 (stC 24 a c es)] (RetRun.tmp (RetRun.tmp RetRun.nil)) ⟨by rw [plc_no hf hi8 (fun h => by unfold Right at h; omega)]; rfl, rfl⟩ (Ent.drop _ _)
    ·
     refine RN.m rfl ?_
     refine RN.p rfl (p_fieldAddr rfl fa_49_2 rfl) ?_
     refine RN.u rfl (by exact (q_load rfl sc_3 rfl (i := 0) rfl rfl)) ?_
     refine RN.m rfl ?_
     refine RN.p rfl (by exact (p_sub rfl rfl rfl (by have := hv.bound hi8; omega))) ?_
     refine RN.p rfl (p_gtr rfl rfl rfl) ?_
     refine RN.pf rfl ?_
     refine RN.nil ?_
     refine hK8 _ _ ?_
     refine T.cond_dec rfl (fun h46 => ?_) (fun h46 => ?_)
     ·
      have hR : ¬ Right (es[i].len : Nat) at_ n := fun h => by unfold Right at h; omega
      refine T.seq fun K12 hK12 => ?_
      refine T.region (l := [0, 1]) rfl ?_
      refine RN.a rfl ?_
      refine RN.a rfl ?_
      refine RN.nil ?_
      refine hK12 _ _ ?_
      refine T.ret ?_
      refine Post.seq_r ?_
      refine bodyQ_ret [row s 72 (stC 24 a c es)] (RetRun.tmp (RetRun.tmp RetRun.nil)) ⟨by rw [plc_no hf hi8 (fun h => by unfold Right at h; omega)]; rfl, rfl⟩ (Ent.drop _ _)
     ·
      have hR : Right (es[i].len : Nat) at_ n := by unfold Right; omega
      have hb := hv.bound hi8
      refine T.skip ?_
      refine hK7 _ _ ?_
      refine T.seq fun K13 hK13 => ?_
      refine T.region (l := [0, 1, 2, 3, 4, 5]) rfl ?_
      refine RN.p rfl (p_fieldAddr rfl fa_49_1 rfl) ?_
      refine RN.u rfl (by exact (q_load rfl sc_3 rfl (i := 0) rfl rfl)) ?_
      refine RN.m rfl ?_
      refine RN.p rfl (by exact (p_add rfl rfl rfl (by unfold Right at hR; omega))) ?_
      refine RN.a rfl ?_
      refine RN.a rfl ?_
      refine RN.nil ?_
      refine hK13 _ _ ?_
      refine T.ret ?_
      refine bodyQ_ret [row s 72 (stC 24 a c es)] (RetRun.tmp (RetRun.tmp RetRun.nil)) ⟨by rw [plc_yes hf hi8 hR]; rfl, rfl⟩ (Ent.drop _ _)

theorem other_spec (s a c : Nat) (es : List VE) (name to_ : List UInt8) (hes : es.length = 8) : Ctr Tryz.prog 48 [ptr s 0, strV name, strV to_] [row s 72 (stC 24 a c es)] (fun v Ps => v = .tuple #[intV (othV es name to_).1, .int .i64 (othV es name to_).2] ∧ Ps = [row s 72 (stC 24 a c es)]) := by
 refine Ctr.of_body Tryz.func48 rfl (by kernel_rfl) Tryz.ntmps48 rfl rfl (fun Fr => ?_)
 refine T.seq fun K1 hK1 => ?_
 refine T.region (l := [0, 1]) rfl ?_
 refine RN.a rfl ?_
 refine RN.a rfl ?_
 refine RN.nil ?_
 refine hK1 _ _ ?_
 refine T.seq fun K2 hK2 => ?_
 refine T.region (l := [0, 1, 2, 3, 4, 5, 6, 7]) rfl ?_
 refine RN.m rfl ?_
 refine RN.m rfl ?_
 refine RN.C [0] rfl rfl rfl rfl (c_call rfl rfl) (find_spec s a c es name hes) rfl ?_
 rintro _ _ ⟨rfl, rfl⟩
 refine RN.m rfl ?_
 refine RN.p rfl (p_extract rfl rfl rfl) ?_
 refine RN.p rfl (p_extract rfl rfl rfl) ?_
 refine RN.a rfl ?_
 refine RN.a rfl ?_
 refine RN.nil ?_
 refine hK2 _ _ ?_
 refine T.seq fun K3 hK3 => ?_
 refine T.seq fun K4 hK4 => ?_
 refine T.region (l := [0, 1]) rfl ?_
 refine RN.m rfl ?_
 refine RN.p rfl (by exact (p_not rfl rfl)) ?_
 refine RN.nil ?_
 refine hK4 _ _ ?_
 refine T.cond rfl (fun h19 => ?_) (fun h19 => ?_)
 ·
  have hf : findE es name = none := by cases hq : findE es name with
  | none => rfl
  | some j => rw [hq] at h19; cases h19
  refine T.seq fun K5 hK5 => ?_
  refine T.region (l := [0, 1]) rfl ?_
  refine RN.a rfl ?_
  refine RN.a rfl ?_
  refine RN.nil ?_
  refine hK5 _ _ ?_
  refine T.ret ?_
  refine Post.seq_r ?_
  refine bodyQ_ret [row s 72 (stC 24 a c es)] (RetRun.tmp (RetRun.tmp RetRun.nil)) ⟨by rw [oth_none hf]; rfl, rfl⟩ (Ent.refl _)
 ·
  obtain ⟨i, hf⟩ : ∃ j, findE es name = some j := by
   cases hq : findE es name with
   | none => rw [hq] at h19; cases h19
   | some j => exact ⟨j, rfl⟩
  obtain ⟨hi8, hil, hin⟩ := findE_is hf
  refine T.known 8 rfl (show _ = intV i from congrArg intV (find_getD hf)) ?_
  refine T.skip ?_
  refine hK3 _ _ ?_
  refine T.seq fun K6 hK6 => ?_
  refine T.seq fun K7 hK7 => ?_
  refine T.region (l := [0, 1, 2]) rfl ?_
  refine RN.m rfl ?_
  refine RN.C [] rfl rfl rfl rfl (c_call rfl rfl) (Good_A to_) rfl ?_
  rintro _ _ ⟨rfl, rfl⟩
  refine RN.p rfl (by exact (p_not rfl rfl)) ?_
  refine RN.nil ?_
  refine hK7 _ _ ?_
  refine T.cond rfl (fun h22 => ?_) (fun h22 => ?_)
  ·
   have hg : ¬ gb to_ = true := by simpa using h22
   refine T.seq fun K8 hK8 => ?_
   refine T.region (l := [0, 1]) rfl ?_
   refine RN.a rfl ?_
   refine RN.a rfl ?_
   refine RN.nil ?_
   refine hK8 _ _ ?_
   refine T.ret ?_
   refine Post.seq_r ?_
   refine bodyQ_ret [row s 72 (stC 24 a c es)] (RetRun.tmp (RetRun.tmp RetRun.nil)) ⟨by rw [oth_bad hf hg]; rfl, rfl⟩ (Ent.refl _)
  ·
   have hg : gb to_ = true := by simpa using h22
   refine T.skip ?_
   refine hK6 _ _ ?_
   refine T.seq fun K9 hK9 => ?_
   refine T.seq fun K10 hK10 => ?_
   refine T.region (l := [0, 1, 2, 3, 4, 5, 6, 7]) rfl ?_
   refine RN.m rfl ?_
   refine RN.m rfl ?_
   refine RN.C [0] rfl rfl rfl rfl (c_call rfl rfl) (find_spec s a c es to_ hes) rfl ?_
   rintro _ _ ⟨rfl, rfl⟩
   refine RN.m rfl ?_
   refine RN.p rfl (p_extract rfl rfl rfl) ?_
   refine RN.p rfl (p_extract rfl rfl rfl) ?_
   refine RN.a rfl ?_
   refine RN.a rfl ?_
   refine RN.nil ?_
   refine hK10 _ _ ?_
   refine T.seq fun K11 hK11 => ?_
   refine T.region (l := [0]) rfl ?_
   refine RN.m rfl ?_
   refine RN.nil ?_
   refine hK11 _ _ ?_
   refine T.cond rfl (fun h29 => ?_) (fun h29 => ?_)
   ·
    obtain ⟨j, hf2⟩ : ∃ j, findE es to_ = some j := by
     cases hq : findE es to_ with
     | none => rw [hq] at h29; cases h29
     | some j => exact ⟨j, rfl⟩
    refine T.seq fun K12 hK12 => ?_
    refine T.region (l := [0, 1]) rfl ?_
    refine RN.a rfl ?_
    refine RN.a rfl ?_
    refine RN.nil ?_
    refine hK12 _ _ ?_
    refine T.ret ?_
    refine Post.seq_r ?_
    refine bodyQ_ret [row s 72 (stC 24 a c es)] (RetRun.tmp (RetRun.tmp RetRun.nil)) ⟨by rw [oth_two hf hg hf2]; rfl, rfl⟩ (Ent.refl _)
   ·
    have hf2 : findE es to_ = none := by cases hq : findE es to_ with
    | none => rfl
    | some j => rw [hq] at h29; cases h29
    refine T.skip ?_
    refine hK9 _ _ ?_
    refine T.seq fun K13 hK13 => ?_
    refine T.region (l := [0, 1, 2]) rfl ?_
    refine RN.m rfl ?_
    refine RN.a rfl ?_
    refine RN.a rfl ?_
    refine RN.nil ?_
    refine hK13 _ _ ?_
    refine T.ret ?_
    refine bodyQ_ret [row s 72 (stC 24 a c es)] (RetRun.tmp (RetRun.tmp RetRun.nil)) ⟨by rw [oth_ok hf hg hf2]; rfl, rfl⟩ (Ent.refl _)

theorem VRead_spec (s a c : Nat) (es : List VE) (t : List UInt8) (name : List UInt8) (at_ n : Int) (hv : VInv c es) (hc : 9 ≤ c ∧ c ≤ 512) (ht : t.length = c * 32) : Ctr Tryz.prog 20 [ptr s 0, strV name, .int .i64 at_, .int .i64 n] [row s 72 (stC 24 a c es), arrA 63 57 5 a t] (fun v Ps => v = .tuple #[strV (reaV es t name at_ n).1, .int .i64 (reaV es t name at_ n).2] ∧ Ps = [row s 72 (stC 24 a c es), arrA 63 57 5 a t]) := by
 refine Ctr.of_body Tryz.func20 rfl (by kernel_rfl) Tryz.ntmps20 rfl rfl (fun Fr => ?_)
 have hes := hv.len
 have hcap := cap_of ht
 refine T.seq fun K1 hK1 => ?_
 refine T.region (l := [0, 1]) rfl ?_
 refine RN.a rfl ?_
 refine RN.a rfl ?_
 refine RN.nil ?_
 refine hK1 _ _ ?_
 refine T.seq fun K2 hK2 => ?_
 refine T.region (l := [0, 1, 2, 3, 4, 5, 6, 7, 8, 9]) rfl ?_
 refine RN.m rfl ?_
 refine RN.m rfl ?_
 refine RN.m rfl ?_
 refine RN.m rfl ?_
 refine RN.C [0] rfl rfl rfl rfl (c_call rfl rfl) (place_spec s a c es name at_ n hv hc) rfl ?_
 rintro _ _ ⟨rfl, rfl⟩
 refine RN.m rfl ?_
 refine RN.p rfl (p_extract rfl rfl rfl) ?_
 refine RN.p rfl (p_extract rfl rfl rfl) ?_
 refine RN.a rfl ?_
 refine RN.a rfl ?_
 refine RN.nil ?_
 refine hK2 _ _ ?_
 refine T.seq fun K3 hK3 => ?_
 refine T.seq fun K4 hK4 => ?_
 refine T.region (l := [0, 1]) rfl ?_
 refine RN.m rfl ?_
 refine RN.p rfl (p_neq rfl rfl rfl) ?_
 refine RN.nil ?_
 refine hK4 _ _ ?_
 refine T.cond_dec rfl (fun h21 => ?_) (fun h21 => ?_)
 ·
  refine T.seq fun K5 hK5 => ?_
  refine T.region (l := [0, 1, 2]) rfl ?_
  refine RN.m rfl ?_
  refine RN.a rfl ?_
  refine RN.a rfl ?_
  refine RN.nil ?_
  refine hK5 _ _ ?_
  refine T.ret ?_
  refine Post.seq_r ?_
  refine bodyQ_ret [row s 72 (stC 24 a c es), arrA 63 57 5 a t] (RetRun.tmp (RetRun.tmp RetRun.nil)) ⟨by rw [rea_no h21]; rfl, rfl⟩ (Ent.refl _)
 ·
  have h0 : (plcE es name at_ n).2 = 0 := Classical.not_not.1 h21
  refine T.skip ?_
  refine hK3 _ _ ?_
  refine T.seq fun K6 hK6 => ?_
  refine T.region (l := [0, 1, 2, 3, 4, 5, 6, 7, 8, 9, 10]) rfl ?_
  refine RN.m rfl ?_
  refine RN.p rfl (p_nilCheck rfl rfl) ?_
  refine RN.p rfl (p_fieldAddr rfl fa_72_0 rfl) ?_
  refine RN.u rfl (q_load rfl sc_68 rfl (i := 0) rfl rfl) ?_
  refine RN.m rfl ?_
  refine RN.m rfl ?_
  refine RN.C [1] rfl rfl rfl rfl (c_invokeA rfl rfl (by kernel_rfl) rfl) (Read_A a t (plcE es name at_ n).1 n) rfl ?_
  rintro _ _ ⟨rfl, rfl⟩
  rw [erE_yes (by rw [hcap]; exact plc_right hv h0)]
  refine RN.p rfl (p_extract rfl rfl rfl) ?_
  refine RN.p rfl (p_extract rfl rfl rfl) ?_
  refine RN.a rfl ?_
  refine RN.a rfl ?_
  refine RN.nil ?_
  refine hK6 _ _ ?_
  refine T.ret ?_
  refine bodyQ_ret [row s 72 (stC 24 a c es), arrA 63 57 5 a t] (RetRun.tmp (RetRun.tmp RetRun.nil)) ⟨by rw [rea_yes h0]; rfl, rfl⟩ (Ent.pull (is := [1, 0]) rfl)

theorem VWrite_spec (s a c : Nat) (es : List VE) (t : List UInt8) (name : List UInt8) (at_ n : Int) (data : List UInt8) (hv : VInv c es) (hc : 9 ≤ c ∧ c ≤ 512) (ht : t.length = c * 32) : Ctr Tryz.prog 21 [ptr s 0, strV name, .int .i64 at_, .int .i64 n, strV data] [row s 72 (stC 24 a c es), arrA 63 57 5 a t] (fun v Ps => v = .int .i64 (wriV es t name at_ n data).1 ∧ Ps = [row s 72 (stC 24 a c es), arrA 63 57 5 a ((wriV es t name at_ n data).2)]) := by
 refine Ctr.of_body Tryz.func21 rfl (by kernel_rfl) Tryz.ntmps21 rfl rfl (fun Fr => ?_)
 have hes := hv.len
 have hcap := cap_of ht
 refine T.seq fun K1 hK1 => ?_
 refine T.region (l := [0]) rfl ?_
 refine RN.a rfl ?_
 refine RN.nil ?_
 refine hK1 _ _ ?_
 refine T.seq fun K2 hK2 => ?_
 refine T.region (l := [0, 1, 2, 3, 4, 5, 6, 7, 8, 9]) rfl ?_
 refine RN.m rfl ?_
 refine RN.m rfl ?_
 refine RN.m rfl ?_
 refine RN.m rfl ?_
 refine RN.C [0] rfl rfl rfl rfl (c_call rfl rfl) (place_spec s a c es name at_ n hv hc) rfl ?_
 rintro _ _ ⟨rfl, rfl⟩
 refine RN.m rfl ?_
 refine RN.p rfl (p_extract rfl rfl rfl) ?_
 refine RN.p rfl (p_extract rfl rfl rfl) ?_
 refine RN.a rfl ?_
 refine RN.a rfl ?_
 refine RN.nil ?_
 refine hK2 _ _ ?_
 refine T.seq fun K3 hK3 => ?_
 refine T.seq fun K4 hK4 => ?_
 refine T.region (l := [0, 1]) rfl ?_
 refine RN.m rfl ?_
 refine RN.p rfl (p_neq rfl rfl rfl) ?_
 refine RN.nil ?_
 refine hK4 _ _ ?_
 refine T.cond_dec rfl (fun h22 => ?_) (fun h22 => ?_)
 ·
  refine T.seq fun K5 hK5 => ?_
  refine T.region (l := [0, 1]) rfl ?_
  refine RN.m rfl ?_
  refine RN.a rfl ?_
  refine RN.nil ?_
  refine hK5 _ _ ?_
  refine T.ret ?_
  refine Post.seq_r ?_
  refine bodyQ_ret [row s 72 (stC 24 a c es), arrA 63 57 5 a t] (RetRun.tmp RetRun.nil) ⟨by rw [wri_no h22]; rfl, by rw [wri_no h22]⟩ (Ent.refl _)
 ·
  have h0 : (plcE es name at_ n).2 = 0 := Classical.not_not.1 h22
  refine T.skip ?_
  refine hK3 _ _ ?_
  refine T.seq fun K6 hK6 => ?_
  refine T.region (l := [0, 1, 2, 3, 4, 5, 6, 7, 8]) rfl ?_
  refine RN.m rfl ?_
  refine RN.p rfl (p_nilCheck rfl rfl) ?_
  refine RN.p rfl (p_fieldAddr rfl fa_72_0 rfl) ?_
  refine RN.u rfl (q_load rfl sc_68 rfl (i := 0) rfl rfl) ?_
  refine RN.m rfl ?_
  refine RN.m rfl ?_
  refine RN.m rfl ?_
  refine RN.C [1] rfl rfl rfl rfl (c_invokeA rfl rfl (by kernel_rfl) rfl) (Write_A a t (plcE es name at_ n).1 n data) rfl ?_
  rintro _ _ ⟨rfl, rfl⟩
  rw [erE_yes (by rw [hcap]; exact plc_right hv h0)]
  refine RN.a rfl ?_
  refine RN.nil ?_
  refine hK6 _ _ ?_
  refine T.ret ?_
  refine bodyQ_ret [row s 72 (stC 24 a c es), arrA 63 57 5 a (wrT t (plcE es name at_ n).1 n data)] (RetRun.tmp RetRun.nil) ⟨by rw [wri_yes h0]; rfl, by rw [wri_yes h0]⟩ (Ent.pull (is := [1, 0]) rfl)

end Go.Proofs.YtbbgajjonodlfaaGreat
namespace Go.Proofs.YtbbgajjonodlfaaGreat
open Go Go.Sl Go.Proofs
set_option maxRecDepth 20000
open Go.Mo Go.Evl
theorem Delete_spec (s a c : Nat) (es : List VE) (t : List UInt8) (name : List UInt8) (hv : VInv c es) (hc : 9 ≤ c ∧ c ≤ 512) (ht : t.length = c * 32) : Ctr Tryz.prog 24 [ptr s 0, strV name] [row s 72 (stC 24 a c es), arrA 63 57 5 a t] (fun v Ps => v = .int .i64 (delV es t name).1 ∧ Ps = [row s 72 (stC 24 a c ((delV es t name).2.1)), arrA 63 57 5 a ((delV es t name).2.2)]) := by
 refine Ctr.of_body Tryz.func24 rfl (by kernel_rfl) Tryz.ntmps24 rfl rfl (fun Fr => ?_)
 have hes := hv.len
 have hcap := cap_of ht
 refine T.seq fun K1 hK1 => ?_
 refine T.region (l := [0]) rfl ?_
 refine RN.a rfl ?_
 refine RN.nil ?_
 refine hK1 _ _ ?_
 refine T.seq fun K2 hK2 => ?_
 refine T.region (l := [0, 1, 2, 3, 4, 5, 6, 7]) rfl ?_
 refine RN.m rfl ?_
 refine RN.m rfl ?_
 refine RN.C [0] rfl rfl rfl rfl (c_call rfl rfl) (find_spec s a c es name hes) rfl ?_
 rintro _ _ ⟨rfl, rfl⟩
 refine RN.m rfl ?_
 refine RN.p rfl (p_extract rfl rfl rfl) ?_
 refine RN.p rfl (p_extract rfl rfl rfl) ?_
 refine RN.a rfl ?_
 refine RN.a rfl ?_
 refine RN.nil ?_
 refine hK2 _ _ ?_
 refine T.seq fun K3 hK3 => ?_
 refine T.seq fun K4 hK4 => ?_
 refine T.region (l := [0, 1]) rfl ?_
 refine RN.m rfl ?_
 refine RN.p rfl (by exact (p_not rfl rfl)) ?_
 refine RN.nil ?_
 refine hK4 _ _ ?_
 refine T.cond rfl (fun h15 => ?_) (fun h15 => ?_)
 ·
  have hf : findE es name = none := by cases hq : findE es name with
  | none => rfl
  | some j => rw [hq] at h15; cases h15
  refine T.seq fun K5 hK5 => ?_
  refine T.region (l := [0]) rfl ?_
  refine RN.a rfl ?_
  refine RN.nil ?_
  refine hK5 _ _ ?_
  refine T.ret ?_
  refine Post.seq_r ?_
  refine bodyQ_ret [row s 72 (stC 24 a c es), arrA 63 57 5 a t] (RetRun.tmp RetRun.nil) ⟨by rw [del_none hf]; rfl, by rw [del_none hf]⟩ (Ent.refl _)
 ·
  obtain ⟨i, hf⟩ : ∃ j, findE es name = some j := by
   cases hq : findE es name with
   | none => rw [hq] at h15; cases h15
   | some j => exact ⟨j, rfl⟩
  obtain ⟨hi8, hil, hin⟩ := findE_is hf
  refine T.known 5 rfl (show _ = intV i from congrArg intV (find_getD hf)) ?_
  refine T.skip ?_
  refine hK3 _ _ ?_
  refine T.seq fun K6 hK6 => ?_
  refine T.seq fun K7 hK7 => ?_
  refine T.region (l := [0, 1, 2, 3, 4, 5, 6]) rfl ?_
  refine RN.m rfl ?_
  refine RN.p rfl (p_nilCheck rfl rfl) ?_
  refine RN.p rfl (p_fieldAddr rfl fa_72_0 rfl) ?_
  refine RN.u rfl (q_load rfl sc_68 rfl (i := 0) rfl rfl) ?_
  refine RN.m rfl ?_
  refine RN.C [1] rfl rfl rfl rfl (c_invokeA rfl rfl (by kernel_rfl) rfl) (Trim_A a t i 1) rfl ?_
  rintro _ _ ⟨rfl, rfl⟩
  rw [erE_yes (by rw [hcap]; unfold Right; omega)]
  refine RN.a rfl ?_
  refine RN.nil ?_
  refine hK7 _ _ ?_
  refine T.seq fun K8 hK8 => ?_
  refine T.region (l := [0, 1]) rfl ?_
  refine RN.m rfl ?_
  refine RN.p rfl (p_neq rfl rfl rfl) ?_
  refine RN.nil ?_
  refine hK8 _ _ ?_
  refine T.known 23 rfl (show _ = Value.bool false from congrArg Value.bool (decide_eq_false (not_not_intro rfl))) ?_
  refine T.cond_f rfl ?_
  refine T.skip ?_
  refine hK6 _ _ ?_
  refine T.seq fun K9 hK9 => ?_
  refine T.region (l := [0, 1, 2, 3, 4, 5, 6]) rfl ?_
  refine RN.m rfl ?_
  refine RN.m rfl ?_
  refine RN.p rfl (p_build rfl pl_49 ti_49 (by dsimp [layAll, lay]; rfl)) ?_
  refine RN.p rfl (p_nilCheck rfl rfl) ?_
  refine RN.p rfl (p_fieldAddr rfl fa_72_2 rfl) ?_
  refine RN.p rfl (by exact (p_indexAddrN_a rfl Tryz.underlying70 ts_49 rfl rfl (by omega))) ?_
  refine RN.EN rfl rfl rfl (by exact (e_storeA rfl ts_49 rfl rfl rfl (VE.cells_one VE.zero) (i := 1) rfl (by rw [stC_length hes]; omega))) ?_
  rintro _ _ ⟨rfl, rfl⟩
  refine RN.nil ?_
  refine hK9 _ _ ?_
  refine T.seq fun K10 hK10 => ?_
  refine T.region (l := [0]) rfl ?_
  refine RN.a rfl ?_
  refine RN.nil ?_
  refine hK10 _ _ ?_
  refine T.ret ?_
  refine bodyQ_ret [row s 72 (stC 24 a c (es.set i VE.zero)), arrA 63 57 5 a (wrT t i 1 [])] (RetRun.tmp RetRun.nil) ⟨by rw [del_some hf]; rfl, by rw [del_some hf]⟩ ((Ent.pull_drop (is := [1, 0, 0]) rfl).trans (Ent.rowEq (stC_lay VE.zero hi8)))

theorem Rename_spec (s a c : Nat) (es : List VE) (t : List UInt8) (name to_ : List UInt8) (hv : VInv c es) (hc : 9 ≤ c ∧ c ≤ 512) (ht : t.length = c * 32) : Ctr Tryz.prog 23 [ptr s 0, strV name, strV to_] [row s 72 (stC 24 a c es), arrA 63 57 5 a t] (fun v Ps => v = .int .i64 (renV es t name to_).1 ∧ Ps = [row s 72 (stC 24 a c ((renV es t name to_).2.1)), arrA 63 57 5 a ((renV es t name to_).2.2)]) := by
 refine Ctr.of_body Tryz.func23 rfl (by kernel_rfl) Tryz.ntmps23 rfl rfl (fun Fr => ?_)
 have hes := hv.len
 have hcap := cap_of ht
 refine T.seq fun K1 hK1 => ?_
 refine T.region (l := [0]) rfl ?_
 refine RN.a rfl ?_
 refine RN.nil ?_
 refine hK1 _ _ ?_
 refine T.seq fun K2 hK2 => ?_
 refine T.region (l := [0, 1, 2, 3, 4, 5, 6, 7, 8]) rfl ?_
 refine RN.m rfl ?_
 refine RN.m rfl ?_
 refine RN.m rfl ?_
 refine RN.C [0] rfl rfl rfl rfl (c_call rfl rfl) (other_spec s a c es name to_ hes) rfl ?_
 rintro _ _ ⟨rfl, rfl⟩
 refine RN.m rfl ?_
 refine RN.p rfl (p_extract rfl rfl rfl) ?_
 refine RN.p rfl (p_extract rfl rfl rfl) ?_
 refine RN.a rfl ?_
 refine RN.a rfl ?_
 refine RN.nil ?_
 refine hK2 _ _ ?_
 refine T.seq fun K3 hK3 => ?_
 refine T.seq fun K4 hK4 => ?_
 refine T.region (l := [0, 1]) rfl ?_
 refine RN.m rfl ?_
 refine RN.p rfl (p_neq rfl rfl rfl) ?_
 refine RN.nil ?_
 refine hK4 _ _ ?_
 refine T.cond_dec rfl (fun h18 => ?_) (fun h18 => ?_)
 ·
  refine T.seq fun K5 hK5 => ?_
  refine T.region (l := [0, 1]) rfl ?_
  refine RN.m rfl ?_
  refine RN.a rfl ?_
  refine RN.nil ?_
  refine hK5 _ _ ?_
  refine T.ret ?_
  refine Post.seq_r ?_
  refine bodyQ_ret [row s 72 (stC 24 a c es), arrA 63 57 5 a t] (RetRun.tmp RetRun.nil) ⟨by rw [ren_no h18]; rfl, by rw [ren_no h18]⟩ (Ent.refl _)
 ·
  have h0 : (othV es name to_).2 = 0 := Classical.not_not.1 h18
  obtain ⟨hk8, hkl, hg⟩ := oth_lt h0
  have hb := hv.bound hk8
  refine T.skip ?_
  refine hK3 _ _ ?_
  refine T.seq fun K6 hK6 => ?_
  refine T.region (l := [0, 1, 2, 3, 4, 5, 6, 7]) rfl ?_
  refine RN.m rfl ?_
  refine RN.m rfl ?_
  refine RN.p rfl (p_nilCheck rfl rfl) ?_
  refine RN.p rfl (p_fieldAddr rfl fa_72_2 rfl) ?_
  refine RN.p rfl (by exact (p_indexAddrN_a rfl Tryz.underlying70 ts_49 rfl rfl (by omega))) ?_
  refine RN.u rfl (q_loadA rfl ag_49 ts_49 rfl (i := 0) rfl (by rw [stC_length hes]; omega) (stC_get hk8)) ?_
  refine RN.E rfl rfl rfl rfl (e_alloc rfl ti_49) ?_
  rintro _ _ ⟨b9, rfl, rfl⟩
  refine RN.EN rfl rfl rfl (by exact (e_storeA rfl ts_49 rfl rfl rfl (VE.cells_one _) (i := 0) rfl (by (simp; done)))) ?_
  rintro _ _ ⟨rfl, rfl⟩
  refine RN.nil ?_
  refine hK6 _ _ ?_
  refine T.seq fun K7 hK7 => ?_
  refine T.region (l := [0, 1, 2]) rfl ?_
  refine RN.m rfl ?_
  refine RN.p rfl (p_fieldAddr rfl fa_49_0 rfl) ?_
  refine RN.EN rfl rfl rfl (by exact (e_store rfl ts_9 rfl (by conv => lhs; whnf) (by rfl) (i := 0) rfl (Nat.succ_pos 2))) ?_
  rintro _ _ ⟨rfl, rfl⟩
  refine RN.nil ?_
  refine hK7 _ _ ?_
  refine T.seq fun K8 hK8 => ?_
  refine T.region (l := [0, 1, 2, 3, 4]) rfl ?_
  refine RN.m rfl ?_
  refine RN.m rfl ?_
  refine RN.u rfl (by exact (q_loadA rfl ag_49 ts_49 rfl (i := 0) rfl (by exact Nat.le_refl _) rfl)) ?_
  refine RN.C [1, 1] rfl rfl rfl rfl (c_call rfl rfl) (note_spec s a c es t (othV es name to_).1 ⟨to_, es[(othV es name to_).1].first, es[(othV es name to_).1].len⟩ hes (by omega) (by rw [hcap]; unfold Right; omega) (gb_len hg).2 (by show es[(othV es name to_).1].first < 65536; omega) (by show es[(othV es name to_).1].len < 65536; omega)) rfl ?_
  rintro _ _ ⟨rfl, rfl⟩
  refine RN.a rfl ?_
  refine RN.nil ?_
  refine hK8 _ _ ?_
  refine T.ret ?_
  refine bodyQ_ret [row s 72 (stC 24 a c (es.set (othV es name to_).1 ⟨to_, es[(othV es name to_).1].first, es[(othV es name to_).1].len⟩)), arrA 63 57 5 a (wrT t (othV es name to_).1 1 (laidT ⟨to_, es[(othV es name to_).1].first, es[(othV es name to_).1].len⟩))] (RetRun.tmp RetRun.nil) ⟨by rw [ren_yes h0 hk8]; rfl, by rw [ren_yes h0 hk8]⟩ (Ent.pull_drop (is := [0, 0, 1]) rfl)

end Go.Proofs.YtbbgajjonodlfaaGreat
namespace Go.Proofs.YtbbgajjonodlfaaGreat
open Go Go.Sl Go.Proofs
set_option maxRecDepth 20000
open Go.Mo Go.Evl
theorem Create_spec (s a c : Nat) (es : List VE) (t : List UInt8) (name : List UInt8) (n : Int) (hv : VInv c es) (hc : 9 ≤ c ∧ c ≤ 512) (ht : t.length = c * 32) : Ctr Tryz.prog 22 [ptr s 0, strV name, .int .i64 n] [row s 72 (stC 24 a c es), arrA 63 57 5 a t] (fun v Ps => v = .int .i64 (creV c es t name n).1 ∧ Ps = [row s 72 (stC 24 a c ((creV c es t name n).2.1)), arrA 63 57 5 a ((creV c es t name n).2.2)]) := by
 refine Ctr.of_body Tryz.func22 rfl (by kernel_rfl) Tryz.ntmps22 rfl rfl (fun Fr => ?_)
 have hes := hv.len
 have hcap := cap_of ht
 refine T.seq fun K1 hK1 => ?_
 refine T.region (l := [0]) rfl ?_
 refine RN.a rfl ?_
 refine RN.nil ?_
 refine hK1 _ _ ?_
 refine T.seq fun K2 hK2 => ?_
 refine T.seq fun K3 hK3 => ?_
 refine T.region (l := [0, 1, 2, 3, 4, 5, 6, 7, 8, 9, 10]) rfl ?_
 refine RN.m rfl ?_
 refine RN.C [] rfl rfl rfl rfl (c_call rfl rfl) (Good_A name) rfl ?_
 rintro _ _ ⟨rfl, rfl⟩
 refine RN.p rfl (by exact (p_not rfl rfl)) ?_
 refine RN.m rfl ?_
 refine RN.split 16 rfl (fun h16 => ?_) (fun h16 => ?_)
 ·
  have hg : ¬ gb name = true := by simpa using h16
  refine RN.no0 rfl ?_
  refine RN.no0 rfl ?_
  refine RN.pt rfl ?_
  refine RN.m rfl ?_
  refine RN.no0 rfl ?_
  refine RN.no0 rfl ?_
  refine RN.pt rfl ?_
  refine RN.nil ?_
  refine hK3 _ _ ?_
  refine T.cond_t rfl ?_
  refine T.seq fun K4 hK4 => ?_
  refine T.region (l := [0]) rfl ?_
  refine RN.a rfl ?_
  refine RN.nil ?_
  refine hK4 _ _ ?_
  refine T.ret ?_
  refine Post.seq_r ?_
  refine bodyQ_ret [row s 72 (stC 24 a c es), arrA 63 57 5 a t] (RetRun.tmp RetRun.nil) ⟨by rw [cre_bad (fun h => by exact hg h.1)]; rfl, by rw [cre_bad (fun h => by exact hg h.1)]⟩ (Ent.refl _)
 ·
  have hg : gb name = true := by simpa using h16
  refine RN.m rfl ?_
  refine RN.p rfl (p_lss rfl rfl rfl) ?_
  refine RN.pf rfl ?_
  refine RN.m rfl ?_
  refine RN.split_dec 20 rfl (fun h20 => ?_) (fun h20 => ?_)
  ·
   refine RN.no0 rfl ?_
   refine RN.no0 rfl ?_
   refine RN.pt rfl ?_
   refine RN.nil ?_
   refine hK3 _ _ ?_
   refine T.cond_t rfl ?_
   refine T.seq fun K5 hK5 => ?_
   refine T.region (l := [0]) rfl ?_
   refine RN.a rfl ?_
   refine RN.nil ?_
   refine hK5 _ _ ?_
   refine T.ret ?_
   refine Post.seq_r ?_
   refine bodyQ_ret [row s 72 (stC 24 a c es), arrA 63 57 5 a t] (RetRun.tmp RetRun.nil) ⟨by rw [cre_bad (fun h => by omega)]; rfl, by rw [cre_bad (fun h => by omega)]⟩ (Ent.refl _)
  ·
   refine RN.m rfl ?_
   refine RN.p rfl (p_gtr rfl rfl rfl) ?_
   refine RN.pf rfl ?_
   refine RN.nil ?_
   refine hK3 _ _ ?_
   refine T.cond_dec rfl (fun h23 => ?_) (fun h23 => ?_)
   ·
    refine T.seq fun K6 hK6 => ?_
    refine T.region (l := [0]) rfl ?_
    refine RN.a rfl ?_
    refine RN.nil ?_
    refine hK6 _ _ ?_
    refine T.ret ?_
    refine Post.seq_r ?_
    refine bodyQ_ret [row s 72 (stC 24 a c es), arrA 63 57 5 a t] (RetRun.tmp RetRun.nil) ⟨by rw [cre_bad (fun h => by omega)]; rfl, by rw [cre_bad (fun h => by omega)]⟩ (Ent.refl _)
   ·
    obtain ⟨nn, rfl⟩ := Int.eq_ofNat_of_zero_le (show 0 ≤ n by omega)
    have hok : gb name = true ∧ 1 ≤ (nn : Int) ∧ (nn : Int) ≤ 512 := ⟨hg, by omega, by omega⟩
    refine T.skip ?_
    refine hK2 _ _ ?_
    refine T.seq fun K7 hK7 => ?_
    refine T.seq fun K8 hK8 => ?_
    refine T.region (l := [0, 1, 2, 3, 4, 5, 6, 7]) rfl ?_
    refine RN.m rfl ?_
    refine RN.m rfl ?_
    refine RN.C [0] rfl rfl rfl rfl (c_call rfl rfl) (find_spec s a c es name hes) rfl ?_
    rintro _ _ ⟨rfl, rfl⟩
    refine RN.m rfl ?_
    refine RN.p rfl (p_extract rfl rfl rfl) ?_
    refine RN.p rfl (p_extract rfl rfl rfl) ?_
    refine RN.a rfl ?_
    refine RN.a rfl ?_
    refine RN.nil ?_
    refine hK8 _ _ ?_
    refine T.seq fun K9 hK9 => ?_
    refine T.region (l := [0]) rfl ?_
    refine RN.m rfl ?_
    refine RN.nil ?_
    refine hK9 _ _ ?_
    refine T.cond rfl (fun h30 => ?_) (fun h30 => ?_)
    ·
     obtain ⟨j, hf⟩ : ∃ j, findE es name = some j := by
      cases hq : findE es name with
      | none => rw [hq] at h30; cases h30
      | some j => exact ⟨j, rfl⟩
     refine T.seq fun K10 hK10 => ?_
     refine T.region (l := [0]) rfl ?_
     refine RN.a rfl ?_
     refine RN.nil ?_
     refine hK10 _ _ ?_
     refine T.ret ?_
     refine Post.seq_r ?_
     refine bodyQ_ret [row s 72 (stC 24 a c es), arrA 63 57 5 a t] (RetRun.tmp RetRun.nil) ⟨by rw [cre_two hok hf]; rfl, by rw [cre_two hok hf]⟩ (Ent.refl _)
    ·
     have hf : findE es name = none := by cases hq : findE es name with
     | none => rfl
     | some j => rw [hq] at h30; cases h30
     refine T.skip ?_
     refine hK7 _ _ ?_
     refine T.seq fun K11 hK11 => ?_
     refine T.region (l := [0, 1, 2, 3, 4, 5, 6, 7, 8, 9]) rfl ?_
     refine RN.m rfl ?_
     refine RN.m rfl ?_
     refine RN.C [0] rfl rfl rfl rfl (c_call rfl rfl) (room_spec s a c es nn hv (by omega) (by omega)) rfl ?_
     rintro _ _ ⟨rfl, rfl⟩
     refine RN.m rfl ?_
     refine RN.p rfl (p_extract rfl rfl rfl) ?_
     refine RN.p rfl (p_extract rfl rfl rfl) ?_
     refine RN.p rfl (p_extract rfl rfl rfl) ?_
     refine RN.a rfl ?_
     refine RN.a rfl ?_
     refine RN.a rfl ?_
     refine RN.nil ?_
     refine hK11 _ _ ?_
     refine T.seq fun K12 hK12 => ?_
     refine T.seq fun K13 hK13 => ?_
     refine T.region (l := [0, 1]) rfl ?_
     refine RN.m rfl ?_
     refine RN.p rfl (by exact (p_not_dec rfl rfl)) ?_
     refine RN.nil ?_
     refine hK13 _ _ ?_
     refine T.cond_dec rfl (fun h39 => ?_) (fun h39 => ?_)
     ·
      refine T.seq fun K14 hK14 => ?_
      refine T.region (l := [0]) rfl ?_
      refine RN.a rfl ?_
      refine RN.nil ?_
      refine hK14 _ _ ?_
      refine T.ret ?_
      refine Post.seq_r ?_
      refine bodyQ_ret [row s 72 (stC 24 a c es), arrA 63 57 5 a t] (RetRun.tmp RetRun.nil) ⟨by rw [cre_full hok hf h39]; rfl, by rw [cre_full hok hf h39]⟩ (Ent.refl _)
     ·
      have hro := Classical.not_not.1 h39
      obtain ⟨i, hfi, hfz⟩ := free_of hro.1
      obtain ⟨hi8, _⟩ := freeI_is hfi
      have hF8 : 8 ≤ roomAt es nn := by obtain ⟨p, hp⟩ := first_ex hv nn; rw [hp.room]; exact hp.1
      refine T.known 9 rfl (show _ = intV i from congrArg (Value.int .i64) hfz) ?_
      refine T.skip ?_
      refine hK12 _ _ ?_
      refine T.seq fun K15 hK15 => ?_
      refine T.seq fun K16 hK16 => ?_
      refine T.region (l := [0, 1, 2, 3, 4, 5, 6, 7]) rfl ?_
      refine RN.m rfl ?_
      refine RN.p rfl (p_nilCheck rfl rfl) ?_
      refine RN.p rfl (p_fieldAddr rfl fa_72_0 rfl) ?_
      refine RN.u rfl (q_load rfl sc_68 rfl (i := 0) rfl rfl) ?_
      refine RN.m rfl ?_
      refine RN.m rfl ?_
      refine RN.C [1] rfl rfl rfl rfl (c_invokeA rfl rfl (by kernel_rfl) rfl) (Trim_A a t (roomAt es nn : Nat) nn) rfl ?_
      rintro _ _ ⟨rfl, rfl⟩
      rw [erE_yes (by rw [hcap]; unfold Right; omega)]
      refine RN.a rfl ?_
      refine RN.nil ?_
      refine hK16 _ _ ?_
      refine T.seq fun K17 hK17 => ?_
      refine T.region (l := [0, 1]) rfl ?_
      refine RN.m rfl ?_
      refine RN.p rfl (p_neq rfl rfl rfl) ?_
      refine RN.nil ?_
      refine hK17 _ _ ?_
      refine T.known 48 rfl (show _ = Value.bool false from congrArg Value.bool (decide_eq_false (not_not_intro rfl))) ?_
      refine T.cond_f rfl ?_
      refine T.skip ?_
      refine hK15 _ _ ?_
      refine T.seq fun K18 hK18 => ?_
      refine T.region (l := [0, 1, 2, 3, 4, 5, 6, 7]) rfl ?_
      refine RN.m rfl ?_
      refine RN.m rfl ?_
      refine RN.m rfl ?_
      refine RN.m rfl ?_
      refine RN.m rfl ?_
      refine RN.p rfl (p_build rfl pl_49 ti_49 (by dsimp [layAll, lay]; rfl)) ?_
      refine RN.C [1, 0] rfl rfl rfl rfl (c_call rfl rfl) (note_spec s a c es (wrT t (roomAt es nn : Nat) nn []) i ⟨name, roomAt es nn, nn⟩ hes (by omega) (by rw [wrT_length, hcap]; unfold Right; omega) (gb_len hg).2 (by show roomAt es nn < 65536; omega) (by show nn < 65536; omega)) rfl ?_
      rintro _ _ ⟨rfl, rfl⟩
      refine RN.a rfl ?_
      refine RN.nil ?_
      refine hK18 _ _ ?_
      refine T.ret ?_
      refine bodyQ_ret [row s 72 (stC 24 a c (es.set i ⟨name, roomAt es nn, nn⟩)), arrA 63 57 5 a (wrT (wrT t (roomAt es nn : Nat) nn []) i 1 (laidT ⟨name, roomAt es nn, nn⟩))] (RetRun.tmp RetRun.nil) ⟨by rw [cre_ok hok hf hfi hro.2]; rfl, by rw [cre_ok hok hf hfi hro.2]⟩ (Ent.refl _)

theorem Clone_spec (s a c : Nat) (es : List VE) (t : List UInt8) (name to_ : List UInt8) (hv : VInv c es) (hc : 9 ≤ c ∧ c ≤ 512) (ht : t.length = c * 32) : Ctr Tryz.prog 25 [ptr s 0, strV name, strV to_] [row s 72 (stC 24 a c es), arrA 63 57 5 a t] (fun v Ps => v = .int .i64 (cloV c es t name to_).1 ∧ Ps = [row s 72 (stC 24 a c ((cloV c es t name to_).2.1)), arrA 63 57 5 a ((cloV c es t name to_).2.2)]) := by
 refine Ctr.of_body Tryz.func25 rfl (by kernel_rfl) Tryz.ntmps25 rfl rfl (fun Fr => ?_)
 have hes := hv.len
 have hcap := cap_of ht
 refine T.seq fun K1 hK1 => ?_
 refine T.region (l := [0]) rfl ?_
 refine RN.a rfl ?_
 refine RN.nil ?_
 refine hK1 _ _ ?_
 refine T.seq fun K2 hK2 => ?_
 refine T.region (l := [0, 1, 2, 3, 4, 5, 6, 7, 8]) rfl ?_
 refine RN.m rfl ?_
 refine RN.m rfl ?_
 refine RN.m rfl ?_
 refine RN.C [0] rfl rfl rfl rfl (c_call rfl rfl) (other_spec s a c es name to_ hes) rfl ?_
 rintro _ _ ⟨rfl, rfl⟩
 refine RN.m rfl ?_
 refine RN.p rfl (p_extract rfl rfl rfl) ?_
 refine RN.p rfl (p_extract rfl rfl rfl) ?_
 refine RN.a rfl ?_
 refine RN.a rfl ?_
 refine RN.nil ?_
 refine hK2 _ _ ?_
 refine T.seq fun K3 hK3 => ?_
 refine T.seq fun K4 hK4 => ?_
 refine T.region (l := [0, 1]) rfl ?_
 refine RN.m rfl ?_
 refine RN.p rfl (p_neq rfl rfl rfl) ?_
 refine RN.nil ?_
 refine hK4 _ _ ?_
 refine T.cond_dec rfl (fun h22 => ?_) (fun h22 => ?_)
 ·
  refine T.seq fun K5 hK5 => ?_
  refine T.region (l := [0, 1]) rfl ?_
  refine RN.m rfl ?_
  refine RN.a rfl ?_
  refine RN.nil ?_
  refine hK5 _ _ ?_
  refine T.ret ?_
  refine Post.seq_r ?_
  refine bodyQ_ret [row s 72 (stC 24 a c es), arrA 63 57 5 a t] (RetRun.tmp RetRun.nil) ⟨by rw [clo_no h22]; rfl, by rw [clo_no h22]⟩ (Ent.refl _)
 ·
  have h0 : (othV es name to_).2 = 0 := Classical.not_not.1 h22
  obtain ⟨hk8, hkl, hg⟩ := oth_lt h0
  have hb := hv.bound hk8
  have hok := hv.okOf hk8 hkl
  have hRx : Right (t.length / 32 : Nat) (es[(othV es name to_).1].first : Nat) (es[(othV es name to_).1].len : Nat) := by rw [hcap]; unfold Right; omega
  refine T.skip ?_
  refine hK3 _ _ ?_
  refine T.seq fun K6 hK6 => ?_
  refine T.region (l := [0, 1, 2, 3, 4, 5, 6, 7]) rfl ?_
  refine RN.m rfl ?_
  refine RN.m rfl ?_
  refine RN.p rfl (p_nilCheck rfl rfl) ?_
  refine RN.p rfl (p_fieldAddr rfl fa_72_2 rfl) ?_
  refine RN.p rfl (by exact (p_indexAddrN_a rfl Tryz.underlying70 ts_49 rfl rfl (by omega))) ?_
  refine RN.u rfl (q_loadA rfl ag_49 ts_49 rfl (i := 0) rfl (by rw [stC_length hes]; omega) (stC_get hk8)) ?_
  refine RN.E rfl rfl rfl rfl (e_alloc rfl ti_49) ?_
  rintro _ _ ⟨b9, rfl, rfl⟩
  refine RN.EN rfl rfl rfl (by exact (e_storeA rfl ts_49 rfl rfl rfl (VE.cells_one _) (i := 0) rfl (by (simp; done)))) ?_
  rintro _ _ ⟨rfl, rfl⟩
  refine RN.nil ?_
  refine hK6 _ _ ?_
  refine T.seq fun K7 hK7 => ?_
  refine T.region (l := [0, 1, 2, 3, 4, 5, 6, 7, 8, 9, 10]) rfl ?_
  refine RN.m rfl ?_
  refine RN.p rfl (p_fieldAddr rfl fa_49_2 rfl) ?_
  refine RN.u rfl (by exact (q_load rfl sc_3 rfl (i := 0) rfl rfl)) ?_
  refine RN.C [1] rfl rfl rfl rfl (c_call rfl rfl) (room_spec s a c es es[(othV es name to_).1].len hv (by omega) (by omega)) rfl ?_
  rintro _ _ ⟨rfl, rfl⟩
  refine RN.m rfl ?_
  refine RN.p rfl (p_extract rfl rfl rfl) ?_
  refine RN.p rfl (p_extract rfl rfl rfl) ?_
  refine RN.p rfl (p_extract rfl rfl rfl) ?_
  refine RN.a rfl ?_
  refine RN.a rfl ?_
  refine RN.a rfl ?_
  refine RN.nil ?_
  refine hK7 _ _ ?_
  refine T.seq fun K8 hK8 => ?_
  refine T.seq fun K9 hK9 => ?_
  refine T.region (l := [0, 1]) rfl ?_
  refine RN.m rfl ?_
  refine RN.p rfl (by exact (p_not_dec rfl rfl)) ?_
  refine RN.nil ?_
  refine hK9 _ _ ?_
  refine T.cond_dec rfl (fun h39 => ?_) (fun h39 => ?_)
  ·
   refine T.seq fun K10 hK10 => ?_
   refine T.region (l := [0]) rfl ?_
   refine RN.a rfl ?_
   refine RN.nil ?_
   refine hK10 _ _ ?_
   refine T.ret ?_
   refine Post.seq_r ?_
   refine bodyQ_ret [row s 72 (stC 24 a c es), arrA 63 57 5 a t] (RetRun.tmp RetRun.nil) ⟨by rw [clo_full h0 hk8 h39]; rfl, by rw [clo_full h0 hk8 h39]⟩ (Ent.pull_drop (is := [0, 1, 1]) rfl)
  ·
   have hro := Classical.not_not.1 h39
   obtain ⟨i, hfi, hfz⟩ := free_of hro.1
   obtain ⟨hi8, _⟩ := freeI_is hfi
   have hF8 : 8 ≤ roomAt es es[(othV es name to_).1].len := by obtain ⟨p, hp⟩ := first_ex hv es[(othV es name to_).1].len; rw [hp.room]; exact hp.1
   refine T.known 10 rfl (show _ = intV i from congrArg (Value.int .i64) hfz) ?_
   refine T.skip ?_
   refine hK8 _ _ ?_
   refine T.seq fun K11 hK11 => ?_
   refine T.seq fun K12 hK12 => ?_
   refine T.regionD (z := 13) (Bs := [row b9 49 es[(othV es name to_).1].cells, row s 72 (stC 24 a c es)]) (l := [(0, .pure), (1, .pure), (2, .pure), (3, .load), (4, .pure), (5, .pure), (6, .pure), (7, .load), (8, .pure), (9, .load), (10, .pure), (11, .load), (12, .pure), (13, .eff), (14, .pure)]) mixed (by kernel_rfl) (by exact Ent.pull_drop (is := [1, 0]) rfl) ?_
   refine RD.n rfl (p_move rfl (by conv => lhs; whnf)) ?_
   refine RD.n rfl (p_nilCheck rfl rfl) ?_
   refine RD.n rfl (p_fieldAddr rfl fa_72_0 rfl) ?_
   refine RD.qq rfl rfl rfl rfl (by exact (q_load rfl sc_68 rfl (i := 1) rfl rfl)) (by exact Ent.pull_drop (is := [1, 0]) rfl) ?_
   refine RD.n rfl (p_move rfl (by conv => lhs; whnf)) ?_
   refine RD.n rfl (p_nilCheck rfl rfl) ?_
   refine RD.n rfl (p_fieldAddr rfl fa_72_0 rfl) ?_
   refine RD.qq rfl rfl rfl rfl (by exact (q_load rfl sc_68 rfl (i := 1) rfl rfl)) (by exact Ent.pull_drop (is := [1, 0]) rfl) ?_
   refine RD.n rfl (p_fieldAddr rfl fa_49_1 rfl) ?_
   refine RD.qq rfl rfl rfl rfl (by exact (q_load rfl sc_3 rfl (i := 0) rfl rfl)) (by exact Ent.pull_drop (is := [1, 0]) rfl) ?_
   refine RD.n rfl (p_fieldAddr rfl fa_49_2 rfl) ?_
   refine RD.qq rfl rfl rfl rfl (by exact (q_load rfl sc_3 rfl (i := 0) rfl rfl)) (by exact Ent.pull_drop (is := [1, 0]) rfl) ?_
   refine RD.n rfl (p_move rfl (by conv => lhs; whnf)) ?_
   refine RD.C [2] rfl rfl rfl rfl (c_call rfl rfl) (Copyd_A a t (es[(othV es name to_).1].first : Nat) (es[(othV es name to_).1].len : Nat) (roomAt es es[(othV es name to_).1].len : Nat)) rfl (fun _ _ _ => .inr rfl) ?_
   rintro _ _ ⟨rfl, rfl⟩
   rw [cpE, cpT, if_pos hRx, if_pos hRx, erE_yes (by rw [hcap]; unfold Right; omega)]
   refine RD.n rfl (p_assign rfl (by conv => lhs; whnf)) ?_
   refine RD.nil ?_
   refine hK12 _ _ ?_
   refine T.seq fun K13 hK13 => ?_
   refine T.region (l := [0, 1]) rfl ?_
   refine RN.m rfl ?_
   refine RN.p rfl (p_neq rfl rfl rfl) ?_
   refine RN.nil ?_
   refine hK13 _ _ ?_
   refine T.known 55 rfl (show _ = Value.bool false from congrArg Value.bool (decide_eq_false (not_not_intro rfl))) ?_
   refine T.cond_f rfl ?_
   refine T.skip ?_
   refine hK11 _ _ ?_
   refine T.seq fun K14 hK14 => ?_
   refine T.region (l := [0, 1, 2, 3, 4, 5, 6, 7, 8]) rfl ?_
   refine RN.m rfl ?_
   refine RN.m rfl ?_
   refine RN.m rfl ?_
   refine RN.m rfl ?_
   refine RN.p rfl (p_fieldAddr rfl fa_49_2 rfl) ?_
   refine RN.u rfl (by exact (q_load rfl sc_3 rfl (i := 2) rfl rfl)) ?_
   refine RN.p rfl (p_build rfl pl_49 ti_49 (by dsimp [layAll, lay]; rfl)) ?_
   refine RN.C [1, 0] rfl rfl rfl rfl (c_call rfl rfl) (note_spec s a c es (wrT t (roomAt es es[(othV es name to_).1].len : Nat) es[(othV es name to_).1].len (rdT t es[(othV es name to_).1].first es[(othV es name to_).1].len)) i ⟨to_, roomAt es es[(othV es name to_).1].len, es[(othV es name to_).1].len⟩ hes (by omega) (by rw [wrT_length, hcap]; unfold Right; omega) (gb_len hg).2 (by show roomAt es es[(othV es name to_).1].len < 65536; omega) (by show es[(othV es name to_).1].len < 65536; omega)) rfl ?_
   rintro _ _ ⟨rfl, rfl⟩
   refine RN.a rfl ?_
   refine RN.nil ?_
   refine hK14 _ _ ?_
   refine T.ret ?_
   refine bodyQ_ret [row s 72 (stC 24 a c (es.set i ⟨to_, roomAt es es[(othV es name to_).1].len, es[(othV es name to_).1].len⟩)), arrA 63 57 5 a (wrT (wrT t (roomAt es es[(othV es name to_).1].len : Nat) es[(othV es name to_).1].len (rdT t es[(othV es name to_).1].first es[(othV es name to_).1].len)) i 1 (laidT ⟨to_, roomAt es es[(othV es name to_).1].len, es[(othV es name to_).1].len⟩))] (RetRun.tmp RetRun.nil) ⟨by rw [clo_ok h0 hk8 hfi hro.2]; rfl, by rw [clo_ok h0 hk8 hfi hro.2]⟩ (Ent.pull_drop (is := [0, 0, 1]) rfl)

end Go.Proofs.YtbbgajjonodlfaaGreat
namespace Go.Proofs.YtbbgajjonodlfaaGreat
open Go Go.Sl Go.Proofs
set_option maxRecDepth 20000
open Go.Mo Go.Evl
theorem Open_no (a c : Nat) (t : List UInt8) (hc : c ≤ 8) (ht : t.length = c * 32) : Ctr Tryz.prog 11 [.iface 24 (ptr a 0)] [arrA 63 57 5 a t] (fun v Ps => v = .tuple #[.pointer none, .int .i64 1] ∧ Ps = [arrA 63 57 5 a t]) := by
 refine Ctr.of_body Tryz.func11 rfl (by kernel_rfl) Tryz.ntmps11 rfl rfl (fun Fr => ?_)
 have hcap := cap_of ht
 refine T.seq fun K1 hK1 => ?_
 refine T.region (l := [0, 1]) rfl ?_
 refine RN.a rfl ?_
 refine RN.a rfl ?_
 refine RN.nil ?_
 refine hK1 _ _ ?_
 refine T.scope ?_
 refine T.seq fun K2 hK2 => ?_
 refine T.region (l := [0, 1, 2, 3, 4, 5]) rfl ?_
 refine RN.m rfl ?_
 refine RN.m rfl ?_
 refine RN.C [0] rfl rfl rfl rfl (c_call rfl rfl) (Sectors_A a t (by omega)) rfl ?_
 rintro _ _ ⟨rfl, rfl⟩
 rw [hcap]
 refine RN.p rfl (p_build rfl pl_72 ti_72 (by dsimp [layAll, lay]; rfl)) ?_
 refine RN.E rfl rfl rfl rfl (e_box rfl rfl rfl) ?_
 rintro _ _ ⟨b15, rfl, rfl⟩
 refine RN.a rfl ?_
 refine RN.nil ?_
 refine hK2 _ _ ?_
 refine T.seq fun K3 hK3 => ?_
 refine T.seq fun K4 hK4 => ?_
 refine T.ent (Hs' := [row b15 72 (stC 24 a c (List.replicate 8 VE.zero)), arrA 63 57 5 a t, Fr]) (Ent.of_eq rfl) ?_
 refine T.region (l := [0, 1, 2, 3, 4]) rfl ?_
 refine RN.m rfl ?_
 refine RN.p rfl (p_nilCheck rfl rfl) ?_
 refine RN.p rfl (p_fieldAddr rfl fa_72_1 rfl) ?_
 refine RN.u rfl (by exact (q_load rfl sc_3 rfl (i := 0) rfl rfl)) ?_
 refine RN.p rfl (p_leq rfl rfl rfl) ?_
 refine RN.nil ?_
 refine hK4 _ _ ?_
 refine T.known 20 rfl (show _ = Value.bool true from congrArg Value.bool (decide_eq_true (by omega))) ?_
 refine T.cond_t rfl ?_
 refine T.seq fun K5 hK5 => ?_
 refine T.region (l := [0, 1]) rfl ?_
 refine RN.a rfl ?_
 refine RN.a rfl ?_
 refine RN.nil ?_
 refine hK5 _ _ ?_
 refine T.ret ?_
 refine Post.seq_r ?_
 refine Post.ng_r ?_
 refine bodyQ_ret [arrA 63 57 5 a t] (RetRun.tmp (RetRun.tmp RetRun.nil)) ⟨rfl, rfl⟩ (Ent.drop _ _)

theorem Open_yes (a c : Nat) (t : List UInt8) (hc : 9 ≤ c ∧ c ≤ 512) (ht : t.length = c * 32) : Ctr Tryz.prog 11 [.iface 24 (ptr a 0)] [arrA 63 57 5 a t] (fun v Ps => ∃ s, v = .tuple #[ptr s 0, .int .i64 0] ∧ Ps = [row s 72 (stC 24 a c (opE c t 8)), arrA 63 57 5 a t]) := by
 refine Ctr.of_body Tryz.func11 rfl (by kernel_rfl) Tryz.ntmps11 rfl rfl (fun Fr => ?_)
 have hcap := cap_of ht
 have hR8 : Right (t.length / 32 : Nat) 0 8 := by rw [hcap]; unfold Right; omega
 have hrl : (rdT t 0 8).length = 256 := rdT_length hR8
 refine T.seq fun K1 hK1 => ?_
 refine T.region (l := [0, 1]) rfl ?_
 refine RN.a rfl ?_
 refine RN.a rfl ?_
 refine RN.nil ?_
 refine hK1 _ _ ?_
 refine T.scope ?_
 refine T.seq fun K2 hK2 => ?_
 refine T.region (l := [0, 1, 2, 3, 4, 5]) rfl ?_
 refine RN.m rfl ?_
 refine RN.m rfl ?_
 refine RN.C [0] rfl rfl rfl rfl (c_call rfl rfl) (Sectors_A a t (by omega)) rfl ?_
 rintro _ _ ⟨rfl, rfl⟩
 rw [hcap]
 refine RN.p rfl (p_build rfl pl_72 ti_72 (by dsimp [layAll, lay]; rfl)) ?_
 refine RN.E rfl rfl rfl rfl (e_box rfl rfl rfl) ?_
 rintro _ _ ⟨b15, rfl, rfl⟩
 refine RN.a rfl ?_
 refine RN.nil ?_
 refine hK2 _ _ ?_
 refine T.seq fun K3 hK3 => ?_
 refine T.seq fun K4 hK4 => ?_
 refine T.ent (Hs' := [row b15 72 (stC 24 a c (List.replicate 8 VE.zero)), arrA 63 57 5 a t, Fr]) (Ent.of_eq rfl) ?_
 refine T.region (l := [0, 1, 2, 3, 4]) rfl ?_
 refine RN.m rfl ?_
 refine RN.p rfl (p_nilCheck rfl rfl) ?_
 refine RN.p rfl (p_fieldAddr rfl fa_72_1 rfl) ?_
 refine RN.u rfl (by exact (q_load rfl sc_3 rfl (i := 0) rfl rfl)) ?_
 refine RN.p rfl (p_leq rfl rfl rfl) ?_
 refine RN.nil ?_
 refine hK4 _ _ ?_
 refine T.known 20 rfl (show _ = Value.bool false from congrArg Value.bool (decide_eq_false (by omega))) ?_
 refine T.cond_f rfl ?_
 refine T.skip ?_
 refine hK3 _ _ ?_
 refine T.seq fun K5 hK5 => ?_
 refine T.region (l := [0, 1, 2, 3, 4, 5, 6]) rfl ?_
 refine RN.m rfl ?_
 refine RN.C [1] rfl rfl rfl rfl (c_invokeA rfl rfl (by kernel_rfl) rfl) (Read_A a t 0 8) rfl ?_
 rintro _ _ ⟨rfl, rfl⟩
 rw [erE_yes hR8]
 refine RN.m rfl ?_
 refine RN.p rfl (p_extract rfl rfl rfl) ?_
 refine RN.p rfl (p_extract rfl rfl rfl) ?_
 refine RN.a rfl ?_
 refine RN.a rfl ?_
 refine RN.nil ?_
 refine hK5 _ _ ?_
 refine T.seq fun K6 hK6 => ?_
 refine T.seq fun K7 hK7 => ?_
 refine T.region (l := [0, 1]) rfl ?_
 refine RN.m rfl ?_
 refine RN.p rfl (p_neq rfl rfl rfl) ?_
 refine RN.nil ?_
 refine hK7 _ _ ?_
 refine T.known 27 rfl (show _ = Value.bool false from congrArg Value.bool (decide_eq_false (not_not_intro rfl))) ?_
 refine T.cond_f rfl ?_
 refine T.skip ?_
 refine hK6 _ _ ?_
 refine T.seq fun K8 hK8 => ?_
 refine T.label ?_
 refine hK8 _ _ ?_
 refine T.seq fun K9 hK9 => ?_
 refine T.seq fun K10 hK10 => ?_
 refine T.region (l := [0]) rfl ?_
 refine RN.m rfl ?_
 refine RN.nil ?_
 refine hK10 _ _ ?_
 refine T.block ?_
 refine T.loop (G := Nat) (fun k => k ≤ 8) (fun k => [(4, ptr b15 0), (5, strV (rdT t 0 8)), (29, intV k)]) (fun k => [row b15 72 (stC 24 a c (opP c t k)), arrA 63 57 5 a t, Fr]) (fun k => 8 - k) 0 (Nat.zero_le _) (LiveIs.cons rfl (LiveIs.cons rfl (LiveIs.cons rfl LiveIs.nil))) ((Ent.pull_drop (is := [1, 0, 0]) rfl).trans (Ent.of_eq rfl)) ?_
 rintro k e11 hk
 refine T.seq fun K12 hK12 => ?_
 refine T.region (l := [0]) rfl ?_
 refine RN.p rfl (p_lss rfl rfl rfl) ?_
 refine RN.nil ?_
 refine hK12 _ _ ?_
 refine T.seq fun K13 hK13 => ?_
 refine T.cond_dec rfl (fun h30 => ?_) (fun h30 => ?_)
 ·
  have hk8 : k < 8 := by omega
  refine T.skip ?_
  refine hK13 _ _ ?_
  refine T.seq fun K14 hK14 => ?_
  refine T.block ?_
  refine T.seq fun K15 hK15 => ?_
  refine T.region (l := [0, 1]) rfl ?_
  refine RN.m rfl ?_
  refine RN.a rfl ?_
  refine RN.nil ?_
  refine hK15 _ _ ?_
  refine T.cut (G := Nat) (fun b8 => True) (fun b8 => [(4, ptr b15 0), (5, strV (rdT t 0 8)), (29, intV k), (7, intV k), (8, ptr b8 0)]) (fun b8 => [row b8 49 (rdE c (secT t k)).cells, row b15 72 (stC 24 a c (opP c t k)), arrA 63 57 5 a t, Fr]) ?_ ?_
  ·
   -- EFFECTS UNORDERED [11, 12]
   refine T.regionT3 (z := 13) (Bs := [row b15 72 (stC 24 a c (opP c t k))]) (t := .br [(0, .pure), (1, .pure), (2, .pure), (3, .pure), (4, .pure), (5, .pure), (6, .pure), (7, .pure), (8, .pure), (9, .pure), (10, .load)] 11 (.go [(12, .eff), (13, .eff)]) 12 (.go [(11, .eff), (13, .eff)])) mixed (by kernel_rfl) (by exact Ent.pull_drop (is := [0]) rfl) ?_
   refine RDT3.br ?_
   refine RD.n rfl (p_move rfl (by conv => lhs; whnf)) ?_
   refine RD.n rfl (p_move rfl (by conv => lhs; whnf)) ?_
   refine RD.n rfl (by exact (p_mulN (b := 32) rfl rfl rfl (by omega))) ?_
   refine RD.n rfl (p_move rfl (by conv => lhs; whnf)) ?_
   refine RD.n rfl (by exact (p_addN (b := 1) rfl rfl rfl (by omega))) ?_
   refine RD.n rfl (by exact (p_mulN (b := 32) rfl rfl rfl (by omega))) ?_
   refine RD.n rfl (by exact (p_sliceN_s rfl Tryz.underlying9 rfl rfl rfl (by omega))) ?_
   refine RD.n rfl (p_move rfl (by conv => lhs; whnf)) ?_
   refine RD.n rfl (p_nilCheck rfl rfl) ?_
   refine RD.n rfl (p_fieldAddr rfl fa_72_1 rfl) ?_
   refine RD.qq rfl rfl rfl rfl (by exact (q_load rfl sc_3 rfl (i := 0) rfl rfl)) (by exact Ent.pull_drop (is := [0]) rfl) ?_
   refine RD.nil ?_
   refine ⟨?_, ?_⟩
   ·
    refine RD.known 38 rfl (show _ = strV (secT t k) from congrArg strV (sec_rd hk8 hR8)) ?_
    refine RD.C [] rfl rfl rfl rfl (c_call rfl rfl) (read_spec (secT t k) c (sec_len (by omega)) (by omega)) rfl (by rintro _ _ ⟨rfl, rfl⟩; exact .inl (by exact Ent.pull_drop (is := [0]) rfl)) ?_
    rintro _ _ ⟨rfl, rfl⟩
    refine RD.nil ?_
    refine RDT3.go ?_
    refine RD.E rfl rfl rfl rfl (e_alloc rfl ti_49) (by rintro _ _ ⟨_, rfl, rfl⟩; exact .inl (by exact Ent.pull_drop (is := [1]) rfl)) ?_
    rintro _ _ ⟨b8, rfl, rfl⟩
    refine RD.EN rfl rfl rfl (by exact (e_storeA rfl ts_49 rfl rfl rfl (VE.cells_one _) (i := 0) rfl (by (simp; done)))) (fun _ _ _ => .inr rfl) ?_
    rintro _ _ ⟨rfl, rfl⟩
    refine RD.nil ?_
    refine ⟨b8, trivial, (LiveIs.cons rfl (LiveIs.cons rfl (LiveIs.cons rfl (LiveIs.cons rfl (LiveIs.cons rfl LiveIs.nil))))), (Ent.refl _)⟩
   ·
    refine RD.E rfl rfl rfl rfl (e_alloc rfl ti_49) (by rintro _ _ ⟨_, rfl, rfl⟩; exact .inl (by exact Ent.pull_drop (is := [1]) rfl)) ?_
    rintro _ _ ⟨b8, rfl, rfl⟩
    refine RD.nil ?_
    refine RDT3.go ?_
    refine RD.known 38 rfl (show _ = strV (secT t k) from congrArg strV (sec_rd hk8 hR8)) ?_
    refine RD.C [] rfl rfl rfl rfl (c_call rfl rfl) (read_spec (secT t k) c (sec_len (by omega)) (by omega)) rfl (by rintro _ _ ⟨rfl, rfl⟩; exact .inl (by exact Ent.pull_drop (is := [1]) rfl)) ?_
    rintro _ _ ⟨rfl, rfl⟩
    refine RD.EN rfl rfl rfl (by exact (e_storeA rfl ts_49 rfl rfl rfl (VE.cells_one _) (i := 0) rfl (by (simp; done)))) (fun _ _ _ => .inr rfl) ?_
    rintro _ _ ⟨rfl, rfl⟩
    refine RD.nil ?_
    refine ⟨b8, trivial, (LiveIs.cons rfl (LiveIs.cons rfl (LiveIs.cons rfl (LiveIs.cons rfl (LiveIs.cons rfl LiveIs.nil))))), (Ent.refl _)⟩
  ·
   rintro b8 e16 -
   refine T.seq fun K17 hK17 => ?_
   refine T.seq fun K18 hK18 => ?_
   refine T.region (l := [0, 1, 2]) rfl ?_
   refine RN.p rfl (p_fieldAddr rfl fa_49_2 rfl) ?_
   refine RN.u rfl (by exact (q_load rfl sc_3 rfl (i := 0) rfl rfl)) ?_
   refine RN.p rfl (p_eql rfl rfl rfl) ?_
   refine RN.nil ?_
   refine hK18 _ _ ?_
   refine T.cond_dec rfl (fun h46 => ?_) (fun h46 => ?_)
   ·
    have hz : (rdE c (secT t k)).len = 0 := by omega
    refine T.exit ?_
    refine Post.seq_x ?_
    refine Post.block_hit ?_
    refine hK14 _ _ ?_
    refine T.region (l := [0, 1]) rfl ?_
    refine RN.p rfl (by exact (p_addN (b := 1) rfl rfl rfl (by omega))) ?_
    refine RN.m rfl ?_
    refine RN.nil ?_
    refine ⟨k + 1, (by omega), (by omega), (LiveIs.cons rfl (LiveIs.cons rfl (LiveIs.cons rfl LiveIs.nil))), (by rw [opP_skip0 hk8 (opE_no hz)]; exact Ent.pull_drop (is := [1, 1, 1]) rfl)⟩
   ·
    refine T.skip ?_
    refine hK17 _ _ ?_
    refine T.seq fun K19 hK19 => ?_
    refine T.seq fun K20 hK20 => ?_
    refine T.region (l := [0, 1, 2, 3]) rfl ?_
    refine RN.m rfl ?_
    refine RN.C [1] rfl rfl rfl rfl (c_call rfl rfl) (Volumes_spec b15 a c (opP c t k) (opP_len hk)) rfl ?_
    rintro v48 _ ⟨hv48, rfl⟩
    rw [opP_vols]
    refine RN.u rfl (q_len_vec rfl Tryz.underlying45 rfl (i := 0) rfl) ?_
    refine RN.m rfl ?_
    refine RN.nil ?_
    refine hK20 _ _ ?_
    refine T.block ?_
    refine T.loop (G := Nat) (fun j => j ≤ (volsE (opE c t k)).length ∧ ∀ i (hi : i < (volsE (opE c t k)).length), i < j → ¬ (rdE c (secT t k)).meets (volsE (opE c t k))[i]) (fun j => [(4, ptr b15 0), (5, strV (rdT t 0 8)), (29, intV k), (7, intV k), (8, ptr b8 0), (48, v48), (49, intV (volsE (opE c t k)).length), (50, intV j)]) (fun j => [vec 49 3 v48 (volsE (opE c t k)).length (flE (volsE (opE c t k))), row b8 49 (rdE c (secT t k)).cells, row b15 72 (stC 24 a c (opP c t k)), arrA 63 57 5 a t, Fr]) (fun j => (volsE (opE c t k)).length - j) 0 ⟨Nat.zero_le _, fun i hi h => absurd h (Nat.not_lt_zero _)⟩ (LiveIs.cons rfl (LiveIs.cons rfl (LiveIs.cons rfl (LiveIs.cons rfl (LiveIs.cons rfl (LiveIs.cons rfl (LiveIs.cons rfl (LiveIs.cons rfl LiveIs.nil)))))))) (Ent.pull_drop (is := [0, 1, 0, 0, 0]) rfl) ?_
    rintro j e21 ⟨hjl, hno⟩
    refine T.seq fun K22 hK22 => ?_
    refine T.region (l := [0]) rfl ?_
    refine RN.p rfl (p_lss rfl rfl rfl) ?_
    refine RN.nil ?_
    refine hK22 _ _ ?_
    refine T.seq fun K23 hK23 => ?_
    refine T.cond_dec rfl (fun h51 => ?_) (fun h51 => ?_)
    ·
     have hj : j < (volsE (opE c t k)).length := by omega
     have hvb := vols_bound (opP_inv (c := c) (t := t) hk) (j := j) (by rw [opP_vols]; exact hj)
     simp only [opP_vols] at hvb
     refine T.skip ?_
     refine hK23 _ _ ?_
     refine T.seq fun K24 hK24 => ?_
     refine T.block ?_
     refine T.seq fun K25 hK25 => ?_
     refine T.openVec 0 rfl (by omega) ?_
     rintro bw capw restw rfl hw1 hw2 hw3
     refine T.region (l := [0, 1, 2, 3]) rfl ?_
     refine RN.p rfl (by exact (p_indexAddrN rfl Tryz.underlying45 ts_49 rfl rfl (by omega))) ?_
     refine RN.u rfl (q_loadA rfl ag_49 ts_49 rfl (i := 0) rfl (by rw [List.length_append, flE_length]; omega) (flE_getR hj)) ?_
     refine RN.E rfl rfl rfl rfl (e_alloc rfl ti_49) ?_
     rintro _ _ ⟨b10, rfl, rfl⟩
     refine RN.EN rfl rfl rfl (by exact (e_storeA rfl ts_49 rfl rfl rfl (VE.cells_one _) (i := 0) rfl (by (simp; done)))) ?_
     rintro _ _ ⟨rfl, rfl⟩
     refine RN.nil ?_
     refine hK25 _ _ ?_
     refine T.seq fun K26 hK26 => ?_
     refine T.region (l := [0, 1, 2]) rfl ?_
     refine RN.u rfl (q_loadA rfl ag_49 ts_49 rfl (i := 2) rfl (by exact Nat.le_refl _) rfl) ?_
     refine RN.u rfl (by exact (q_loadA rfl ag_49 ts_49 rfl (i := 0) rfl (by exact Nat.le_refl _) rfl)) ?_
     refine RN.C [] rfl rfl rfl rfl (c_call rfl rfl) (meets_spec (rdE c (secT t k)) (volsE (opE c t k))[j] (by have := rdE_bound c (secT t k); omega) (by have := hvb.1.2.2.2; omega)) rfl ?_
     rintro _ _ ⟨rfl, rfl⟩
     refine RN.nil ?_
     refine hK26 _ _ ?_
     refine T.cond_dec rfl (fun h56 => ?_) (fun h56 => ?_)
     ·
      refine T.exit ?_
      refine Post.block_miss rfl ?_
      refine Post.seq_x ?_
      refine Post.seq_x ?_
      refine Post.block_miss rfl ?_
      refine Post.seq_x ?_
      refine Post.block_hit ?_
      refine hK14 _ _ ?_
      refine T.region (l := [0, 1]) rfl ?_
      refine RN.p rfl (by exact (p_addN (b := 1) rfl rfl rfl (by omega))) ?_
      refine RN.m rfl ?_
      refine RN.nil ?_
      refine ⟨k + 1, (by omega), (by omega), (LiveIs.cons rfl (LiveIs.cons rfl (LiveIs.cons rfl LiveIs.nil))), ((Ent.pull_drop (is := [3, 3, 3]) rfl).trans (Ent.rowEq (by rw [← opP_skip0 hk8 (opE_meet hj h56)])))⟩
     ·
      refine T.skip ?_
      refine hK24 _ _ ?_
      refine T.region (l := [0, 1]) rfl ?_
      refine RN.p rfl (by exact (p_addN (b := 1) rfl rfl rfl (by omega))) ?_
      refine RN.m rfl ?_
      refine RN.nil ?_
      refine ⟨j + 1, ⟨by omega, fun i hi h => by
       by_cases e : i = j
       · subst e; exact h56
       · exact hno i hi (by omega)⟩, (by omega), (LiveIs.cons rfl (LiveIs.cons rfl (LiveIs.cons rfl (LiveIs.cons rfl (LiveIs.cons rfl (LiveIs.cons rfl (LiveIs.cons rfl (LiveIs.cons rfl LiveIs.nil)))))))), ((Ent.pull_drop (is := [1, 1, 1, 1, 1]) rfl).trans (Ent.cons (vec_of_row (flE_length _) hw1 hw2 hw3) (Ent.refl _)))⟩
    ·
     have hall : ∀ i (hi : i < (volsE (opE c t k)).length), ¬ (rdE c (secT t k)).meets (volsE (opE c t k))[i] := fun i hi => hno i hi (by omega)
     refine T.exit ?_
     refine Post.seq_x ?_
     refine Post.seq_x ?_
     refine Post.block_hit ?_
     refine hK19 _ _ ?_
     refine T.regionD (z := 6) (Bs := [row b8 49 (rdE c (secT t k)).cells]) (l := [(0, .pure), (1, .pure), (2, .load), (3, .pure), (4, .pure), (5, .pure), (6, .eff)]) mixed (by kernel_rfl) (by exact Ent.pull_drop (is := [1]) rfl) ?_
     refine RD.n rfl (p_move rfl (by conv => lhs; whnf)) ?_
     refine RD.n rfl (p_move rfl (by conv => lhs; whnf)) ?_
     refine RD.qq rfl rfl rfl rfl (q_loadA rfl ag_49 ts_49 rfl (i := 0) rfl (by exact Nat.le_refl _) rfl) (by exact Ent.pull_drop (is := [1]) rfl) ?_
     refine RD.n rfl (p_nilCheck rfl rfl) ?_
     refine RD.n rfl (p_fieldAddr rfl fa_72_2 rfl) ?_
     refine RD.n rfl (by exact (p_indexAddrN_a rfl Tryz.underlying70 ts_49 rfl rfl (by omega))) ?_
     refine RD.EN rfl rfl rfl (by exact (e_storeA rfl ts_49 rfl rfl rfl (VE.cells_one (rdE c (secT t k))) (i := 2) rfl (by rw [stC_length (opP_len hk)]; omega))) (fun _ _ _ => .inr rfl) ?_
     rintro _ _ ⟨rfl, rfl⟩
     refine RD.nil ?_
     refine hK14 _ _ ?_
     refine T.region (l := [0, 1]) rfl ?_
     refine RN.p rfl (by exact (p_addN (b := 1) rfl rfl rfl (by omega))) ?_
     refine RN.m rfl ?_
     refine RN.nil ?_
     refine ⟨k + 1, (by omega), (by omega), (LiveIs.cons rfl (LiveIs.cons rfl (LiveIs.cons rfl LiveIs.nil))), ((Ent.pull_drop (is := [2, 2, 2]) rfl).trans (Ent.rowEq ((stC_lay (rdE c (secT t k)) (by rw [opP_len hk]; exact hk8)).trans (congrArg (stC 24 a c) (opP_new hk8 (opE_new hall))))))⟩
 ·
  obtain rfl : k = 8 := by omega
  refine T.exit ?_
  refine Post.seq_x ?_
  refine Post.seq_x ?_
  refine Post.block_hit ?_
  refine hK9 _ _ ?_
  refine T.seq fun K27 hK27 => ?_
  refine T.region (l := [0, 1, 2]) rfl ?_
  refine RN.m rfl ?_
  refine RN.a rfl ?_
  refine RN.a rfl ?_
  refine RN.nil ?_
  refine hK27 _ _ ?_
  refine T.ret ?_
  refine Post.ng_r ?_
  refine bodyQ_ret [row b15 72 (stC 24 a c (opE c t 8)), arrA 63 57 5 a t] (RetRun.tmp (RetRun.tmp RetRun.nil)) ⟨b15, rfl, rfl⟩ (Ent.of_eq (by rw [opP_all]; rfl))

end Go.Proofs.YtbbgajjonodlfaaGreat
namespace Go.Proofs.YtbbgajjonodlfaaGreat
open Go Go.Sl Go.Proofs
set_option maxRecDepth 20000
open Go.Mo Go.Evl
theorem name_spec (n : Int) : Ctr Tryz.prog 35 [.int .i64 n] [] (fun v Ps => v = strV (nmT n) ∧ Ps = []) := by
 refine Ctr.of_body Tryz.func35 rfl (by kernel_rfl) Tryz.ntmps35 rfl rfl (fun Fr => ?_)
 refine T.seq fun K1 hK1 => ?_
 refine T.region (l := [0]) rfl ?_
 refine RN.a rfl ?_
 refine RN.nil ?_
 refine hK1 _ _ ?_
 refine T.seq fun K2 hK2 => ?_
 refine T.region (l := [0, 1]) rfl ?_
 refine RN.E rfl rfl rfl rfl (e_buildSlice rfl Tryz.underlying55 ti_9 rfl (by decide) rfl (by simp)) ?_
 rintro _ _ ⟨b4, rfl, rfl⟩
 refine RN.a rfl ?_
 refine RN.nil ?_
 refine hK2 _ _ ?_
 refine T.seq fun K3 hK3 => ?_
 refine T.region (l := [0, 1, 2, 3, 4, 5]) rfl ?_
 refine RN.m rfl ?_
 refine RN.m rfl ?_
 refine RN.p rfl (p_and7 rfl rfl rfl) ?_
 refine RN.p rfl (by exact (p_indexAddr1N rfl Tryz.underlying55 ts_9 rfl rfl (by omega))) ?_
 refine RN.u rfl (by exact (q_load rfl sc_9 rfl (i := 0) rfl (nm_get n))) ?_
 refine RN.a rfl ?_
 refine RN.nil ?_
 refine hK3 _ _ ?_
 refine T.ret ?_
 refine bodyQ_ret [] (RetRun.tmp RetRun.nil) ⟨rfl, rfl⟩ (Ent.drop _ _)

theorem step_spec (s a c : Nat) (es : List VE) (t : List UInt8) (x : VAct) (hv : VInv c es) (hc : 9 ≤ c ∧ c ≤ 512) (ht : t.length = c * 32) : Ctr Tryz.prog 14 [ptr s 0, .agg x.cells.toArray] [row s 72 (stC 24 a c es), arrA 63 57 5 a t] (fun v Ps => v = .tuple #[strV (stepV c es t x).1, .int .i64 (stepV c es t x).2.1] ∧ Ps = [row s 72 (stC 24 a c ((stepV c es t x).2.2.1)), arrA 63 57 5 a ((stepV c es t x).2.2.2)]) := by
 refine Ctr.of_body Tryz.func14 rfl (by kernel_rfl) Tryz.ntmps14 rfl rfl (fun Fr => ?_)
 refine T.seq fun K1 hK1 => ?_
 refine T.region (l := [0, 1, 2]) rfl ?_
 refine RN.E rfl rfl rfl rfl (e_box rfl rfl rfl) ?_
 rintro _ _ ⟨b3, rfl, rfl⟩
 refine RN.a rfl ?_
 refine RN.a rfl ?_
 refine RN.nil ?_
 refine hK1 _ _ ?_
 refine T.seq fun K2 hK2 => ?_
 refine T.seq fun K3 hK3 => ?_
 refine T.region (l := [0, 1]) rfl ?_
 refine RN.p rfl (p_fieldAddr rfl fa_38_0 rfl) ?_
 refine RN.u rfl (by exact (q_load rfl sc_3 rfl (i := 0) rfl rfl)) ?_
 refine RN.nil ?_
 refine hK3 _ _ ?_
 refine T.block ?_
 refine T.seq fun K4 hK4 => ?_
 refine T.region (l := [0, 1]) rfl ?_
 refine RN.p rfl (p_eql rfl rfl rfl) ?_
 refine RN.a rfl ?_
 refine RN.nil ?_
 refine hK4 _ _ ?_
 refine T.cond_dec rfl (fun h8 => ?_) (fun h8 => ?_)
 ·
  refine T.seq fun K5 hK5 => ?_
  refine T.regionD (z := 9) (Bs := [row b3 38 x.cells]) (l := [(0, .pure), (1, .pure), (2, .load), (4, .pure), (5, .load), (3, .eff), (6, .eff), (7, .pure), (8, .pure)]) mixed (by kernel_rfl) (by exact Ent.pull_drop (is := [0]) rfl) ?_
  refine RD.n rfl (p_move rfl (by conv => lhs; whnf)) ?_
  refine RD.n rfl (p_fieldAddr rfl fa_38_1 rfl) ?_
  refine RD.qq rfl rfl rfl rfl (by exact (q_load rfl sc_3 rfl (i := 0) rfl rfl)) (by exact Ent.pull_drop (is := [0]) rfl) ?_
  refine RD.n rfl (p_fieldAddr rfl fa_38_4 rfl) ?_
  refine RD.qq rfl rfl rfl rfl (by exact (q_load rfl sc_3 rfl (i := 0) rfl rfl)) (by exact Ent.pull_drop (is := [0]) rfl) ?_
  refine RD.C [] rfl rfl rfl rfl (c_call rfl rfl) (name_spec x.a) rfl (by rintro _ _ ⟨rfl, rfl⟩; exact .inl (by exact Ent.pull_drop (is := [0]) rfl)) ?_
  rintro _ _ ⟨rfl, rfl⟩
  refine RD.C [1, 1] rfl rfl rfl rfl (c_call rfl rfl) (Create_spec s a c es t (nmT x.a) x.n hv hc ht) rfl (by rintro _ _ ⟨rfl, rfl⟩; exact .inl (by exact Ent.pull_drop (is := [2]) rfl)) ?_
  rintro _ _ ⟨rfl, rfl⟩
  refine RD.n rfl (p_assign rfl (by conv => lhs; whnf)) ?_
  refine RD.n rfl (p_assign rfl (by conv => lhs; whnf)) ?_
  refine RD.nil ?_
  refine hK5 _ _ ?_
  refine T.ret ?_
  refine Post.block_r ?_
  refine Post.seq_r ?_
  have he : stepV c es t x = ([], creV c es t (nmT x.a) x.n) := by unfold stepV; rw [if_pos h8]
  refine bodyQ_ret [row s 72 (stC 24 a c ((stepV c es t x).2.2.1)), arrA 63 57 5 a ((stepV c es t x).2.2.2)] (RetRun.tmp (RetRun.tmp RetRun.nil)) ⟨by rw [he]; rfl, rfl⟩ (by rw [he]; exact Ent.pull_drop (is := [0, 0, 1]) rfl)
 ·
  refine T.seq fun K6 hK6 => ?_
  refine T.region (l := [0, 1]) rfl ?_
  refine RN.p rfl (p_eql rfl rfl rfl) ?_
  refine RN.a rfl ?_
  refine RN.nil ?_
  refine hK6 _ _ ?_
  refine T.cond_dec rfl (fun h17 => ?_) (fun h17 => ?_)
  ·
   refine T.seq fun K7 hK7 => ?_
   refine T.region (l := [0, 1, 2, 3, 4, 5, 6]) rfl ?_
   refine RN.m rfl ?_
   refine RN.p rfl (p_fieldAddr rfl fa_38_1 rfl) ?_
   refine RN.u rfl (by exact (q_load rfl sc_3 rfl (i := 0) rfl rfl)) ?_
   refine RN.C [] rfl rfl rfl rfl (c_call rfl rfl) (name_spec x.a) rfl ?_
   rintro _ _ ⟨rfl, rfl⟩
   refine RN.C [1, 1] rfl rfl rfl rfl (c_call rfl rfl) (Delete_spec s a c es t (nmT x.a) hv hc ht) rfl ?_
   rintro _ _ ⟨rfl, rfl⟩
   refine RN.a rfl ?_
   refine RN.a rfl ?_
   refine RN.nil ?_
   refine hK7 _ _ ?_
   refine T.ret ?_
   refine Post.block_r ?_
   refine Post.seq_r ?_
   have he : stepV c es t x = ([], delV es t (nmT x.a)) := by unfold stepV; rw [if_neg h8, if_pos h17]
   refine bodyQ_ret [row s 72 (stC 24 a c ((stepV c es t x).2.2.1)), arrA 63 57 5 a ((stepV c es t x).2.2.2)] (RetRun.tmp (RetRun.tmp RetRun.nil)) ⟨by rw [he]; rfl, rfl⟩ (by rw [he]; exact Ent.pull_drop (is := [0, 0, 1]) rfl)
  ·
   refine T.seq fun K8 hK8 => ?_
   refine T.region (l := [0, 1]) rfl ?_
   refine RN.p rfl (p_eql rfl rfl rfl) ?_
   refine RN.a rfl ?_
   refine RN.nil ?_
   refine hK8 _ _ ?_
   refine T.cond_dec rfl (fun h24 => ?_) (fun h24 => ?_)
   ·
    refine T.seq fun K9 hK9 => ?_
    refine T.regionD (z := 10) (Bs := [row b3 38 x.cells]) (l := [(0, .pure), (1, .pure), (2, .load), (4, .pure), (5, .load), (3, .eff), (6, .eff), (7, .eff), (8, .pure), (9, .pure)]) mixed (by kernel_rfl) (by exact Ent.pull_drop (is := [0]) rfl) ?_
    refine RD.n rfl (p_move rfl (by conv => lhs; whnf)) ?_
    refine RD.n rfl (p_fieldAddr rfl fa_38_1 rfl) ?_
    refine RD.qq rfl rfl rfl rfl (by exact (q_load rfl sc_3 rfl (i := 0) rfl rfl)) (by exact Ent.pull_drop (is := [0]) rfl) ?_
    refine RD.n rfl (p_fieldAddr rfl fa_38_2 rfl) ?_
    refine RD.qq rfl rfl rfl rfl (by exact (q_load rfl sc_3 rfl (i := 0) rfl rfl)) (by exact Ent.pull_drop (is := [0]) rfl) ?_
    refine RD.C [] rfl rfl rfl rfl (c_call rfl rfl) (name_spec x.a) rfl (by rintro _ _ ⟨rfl, rfl⟩; exact .inl (by exact Ent.pull_drop (is := [0]) rfl)) ?_
    rintro _ _ ⟨rfl, rfl⟩
    refine RD.C [] rfl rfl rfl rfl (c_call rfl rfl) (name_spec x.b) rfl (by rintro _ _ ⟨rfl, rfl⟩; exact .inl (by exact Ent.pull_drop (is := [0]) rfl)) ?_
    rintro _ _ ⟨rfl, rfl⟩
    refine RD.C [1, 1] rfl rfl rfl rfl (c_call rfl rfl) (Rename_spec s a c es t (nmT x.a) (nmT x.b) hv hc ht) rfl (by rintro _ _ ⟨rfl, rfl⟩; exact .inl (by exact Ent.pull_drop (is := [2]) rfl)) ?_
    rintro _ _ ⟨rfl, rfl⟩
    refine RD.n rfl (p_assign rfl (by conv => lhs; whnf)) ?_
    refine RD.n rfl (p_assign rfl (by conv => lhs; whnf)) ?_
    refine RD.nil ?_
    refine hK9 _ _ ?_
    refine T.ret ?_
    refine Post.block_r ?_
    refine Post.seq_r ?_
    have he : stepV c es t x = ([], renV es t (nmT x.a) (nmT x.b)) := by unfold stepV; rw [if_neg h8, if_neg h17, if_pos h24]
    refine bodyQ_ret [row s 72 (stC 24 a c ((stepV c es t x).2.2.1)), arrA 63 57 5 a ((stepV c es t x).2.2.2)] (RetRun.tmp (RetRun.tmp RetRun.nil)) ⟨by rw [he]; rfl, rfl⟩ (by rw [he]; exact Ent.pull_drop (is := [0, 0, 1]) rfl)
   ·
    refine T.seq fun K10 hK10 => ?_
    refine T.region (l := [0, 1]) rfl ?_
    refine RN.p rfl (p_eql rfl rfl rfl) ?_
    refine RN.a rfl ?_
    refine RN.nil ?_
    refine hK10 _ _ ?_
    refine T.cond_dec rfl (fun h34 => ?_) (fun h34 => ?_)
    ·
     refine T.seq fun K11 hK11 => ?_
     refine T.regionD (z := 10) (Bs := [row b3 38 x.cells]) (l := [(0, .pure), (1, .pure), (2, .load), (4, .pure), (5, .load), (3, .eff), (6, .eff), (7, .eff), (8, .pure), (9, .pure)]) mixed (by kernel_rfl) (by exact Ent.pull_drop (is := [0]) rfl) ?_
     refine RD.n rfl (p_move rfl (by conv => lhs; whnf)) ?_
     refine RD.n rfl (p_fieldAddr rfl fa_38_1 rfl) ?_
     refine RD.qq rfl rfl rfl rfl (by exact (q_load rfl sc_3 rfl (i := 0) rfl rfl)) (by exact Ent.pull_drop (is := [0]) rfl) ?_
     refine RD.n rfl (p_fieldAddr rfl fa_38_2 rfl) ?_
     refine RD.qq rfl rfl rfl rfl (by exact (q_load rfl sc_3 rfl (i := 0) rfl rfl)) (by exact Ent.pull_drop (is := [0]) rfl) ?_
     refine RD.C [] rfl rfl rfl rfl (c_call rfl rfl) (name_spec x.a) rfl (by rintro _ _ ⟨rfl, rfl⟩; exact .inl (by exact Ent.pull_drop (is := [0]) rfl)) ?_
     rintro _ _ ⟨rfl, rfl⟩
     refine RD.C [] rfl rfl rfl rfl (c_call rfl rfl) (name_spec x.b) rfl (by rintro _ _ ⟨rfl, rfl⟩; exact .inl (by exact Ent.pull_drop (is := [0]) rfl)) ?_
     rintro _ _ ⟨rfl, rfl⟩
     refine RD.C [1, 1] rfl rfl rfl rfl (c_call rfl rfl) (Clone_spec s a c es t (nmT x.a) (nmT x.b) hv hc ht) rfl (by rintro _ _ ⟨rfl, rfl⟩; exact .inl (by exact Ent.pull_drop (is := [2]) rfl)) ?_
     rintro _ _ ⟨rfl, rfl⟩
     refine RD.n rfl (p_assign rfl (by conv => lhs; whnf)) ?_
     refine RD.n rfl (p_assign rfl (by conv => lhs; whnf)) ?_
     refine RD.nil ?_
     refine hK11 _ _ ?_
     refine T.ret ?_
     refine Post.block_r ?_
     refine Post.seq_r ?_
     have he : stepV c es t x = ([], cloV c es t (nmT x.a) (nmT x.b)) := by unfold stepV; rw [if_neg h8, if_neg h17, if_neg h24, if_pos h34]
     refine bodyQ_ret [row s 72 (stC 24 a c ((stepV c es t x).2.2.1)), arrA 63 57 5 a ((stepV c es t x).2.2.2)] (RetRun.tmp (RetRun.tmp RetRun.nil)) ⟨by rw [he]; rfl, rfl⟩ (by rw [he]; exact Ent.pull_drop (is := [0, 0, 1]) rfl)
    ·
     refine T.seq fun K12 hK12 => ?_
     refine T.region (l := [0, 1]) rfl ?_
     refine RN.p rfl (p_eql rfl rfl rfl) ?_
     refine RN.a rfl ?_
     refine RN.nil ?_
     refine hK12 _ _ ?_
     refine T.cond_dec rfl (fun h44 => ?_) (fun h44 => ?_)
     ·
      refine T.seq fun K13 hK13 => ?_
      refine T.regionD (z := 13) (Bs := [row b3 38 x.cells]) (l := [(0, .pure), (1, .pure), (2, .load), (4, .pure), (5, .load), (6, .pure), (7, .load), (8, .pure), (9, .load), (3, .eff), (10, .eff), (11, .pure), (12, .pure)]) mixed (by kernel_rfl) (by exact Ent.pull_drop (is := [0]) rfl) ?_
      refine RD.n rfl (p_move rfl (by conv => lhs; whnf)) ?_
      refine RD.n rfl (p_fieldAddr rfl fa_38_1 rfl) ?_
      refine RD.qq rfl rfl rfl rfl (by exact (q_load rfl sc_3 rfl (i := 0) rfl rfl)) (by exact Ent.pull_drop (is := [0]) rfl) ?_
      refine RD.n rfl (p_fieldAddr rfl fa_38_3 rfl) ?_
      refine RD.qq rfl rfl rfl rfl (by exact (q_load rfl sc_3 rfl (i := 0) rfl rfl)) (by exact Ent.pull_drop (is := [0]) rfl) ?_
      refine RD.n rfl (p_fieldAddr rfl fa_38_4 rfl) ?_
      refine RD.qq rfl rfl rfl rfl (by exact (q_load rfl sc_3 rfl (i := 0) rfl rfl)) (by exact Ent.pull_drop (is := [0]) rfl) ?_
      refine RD.n rfl (p_fieldAddr rfl fa_38_5 rfl) ?_
      refine RD.qq rfl rfl rfl rfl (by exact (q_load rfl sc_9 rfl (i := 0) rfl rfl)) (by exact Ent.pull_drop (is := [0]) rfl) ?_
      refine RD.C [] rfl rfl rfl rfl (c_call rfl rfl) (name_spec x.a) rfl (by rintro _ _ ⟨rfl, rfl⟩; exact .inl (by exact Ent.pull_drop (is := [0]) rfl)) ?_
      rintro _ _ ⟨rfl, rfl⟩
      refine RD.C [1, 1] rfl rfl rfl rfl (c_call rfl rfl) (VWrite_spec s a c es t (nmT x.a) x.at_ x.n x.data hv hc ht) rfl (by rintro _ _ ⟨rfl, rfl⟩; exact .inl (by exact Ent.pull_drop (is := [2]) rfl)) ?_
      rintro _ _ ⟨rfl, rfl⟩
      refine RD.n rfl (p_assign rfl (by conv => lhs; whnf)) ?_
      refine RD.n rfl (p_assign rfl (by conv => lhs; whnf)) ?_
      refine RD.nil ?_
      refine hK13 _ _ ?_
      refine T.ret ?_
      refine Post.block_r ?_
      refine Post.seq_r ?_
      have he : stepV c es t x = ([], (wriV es t (nmT x.a) x.at_ x.n x.data).1, es, (wriV es t (nmT x.a) x.at_ x.n x.data).2) := by unfold stepV; rw [if_neg h8, if_neg h17, if_neg h24, if_neg h34, if_pos h44]
      refine bodyQ_ret [row s 72 (stC 24 a c ((stepV c es t x).2.2.1)), arrA 63 57 5 a ((stepV c es t x).2.2.2)] (RetRun.tmp (RetRun.tmp RetRun.nil)) ⟨by rw [he]; rfl, rfl⟩ (by rw [he]; exact Ent.pull_drop (is := [0, 0, 1]) rfl)
     ·
      refine T.seq fun K14 hK14 => ?_
      refine T.region (l := [0, 1]) rfl ?_
      refine RN.p rfl (p_eql rfl rfl rfl) ?_
      refine RN.a rfl ?_
      refine RN.nil ?_
      refine hK14 _ _ ?_
      refine T.cond_dec rfl (fun h57 => ?_) (fun h57 => ?_)
      ·
       refine T.seq fun K15 hK15 => ?_
       refine T.regionD (z := 13) (Bs := [row b3 38 x.cells]) (l := [(0, .pure), (1, .pure), (2, .load), (4, .pure), (5, .load), (6, .pure), (7, .load), (3, .eff), (8, .eff), (9, .pure), (10, .pure), (11, .pure), (12, .pure)]) mixed (by kernel_rfl) (by exact Ent.pull_drop (is := [0]) rfl) ?_
       refine RD.n rfl (p_move rfl (by conv => lhs; whnf)) ?_
       refine RD.n rfl (p_fieldAddr rfl fa_38_1 rfl) ?_
       refine RD.qq rfl rfl rfl rfl (by exact (q_load rfl sc_3 rfl (i := 0) rfl rfl)) (by exact Ent.pull_drop (is := [0]) rfl) ?_
       refine RD.n rfl (p_fieldAddr rfl fa_38_3 rfl) ?_
       refine RD.qq rfl rfl rfl rfl (by exact (q_load rfl sc_3 rfl (i := 0) rfl rfl)) (by exact Ent.pull_drop (is := [0]) rfl) ?_
       refine RD.n rfl (p_fieldAddr rfl fa_38_4 rfl) ?_
       refine RD.qq rfl rfl rfl rfl (by exact (q_load rfl sc_3 rfl (i := 0) rfl rfl)) (by exact Ent.pull_drop (is := [0]) rfl) ?_
       refine RD.C [] rfl rfl rfl rfl (c_call rfl rfl) (name_spec x.a) rfl (by rintro _ _ ⟨rfl, rfl⟩; exact .inl (by exact Ent.pull_drop (is := [0]) rfl)) ?_
       rintro _ _ ⟨rfl, rfl⟩
       refine RD.C [1, 1] rfl rfl rfl rfl (c_call rfl rfl) (VRead_spec s a c es t (nmT x.a) x.at_ x.n hv hc ht) rfl (by rintro _ _ ⟨rfl, rfl⟩; exact .inl (by exact Ent.pull_drop (is := [2]) rfl)) ?_
       rintro _ _ ⟨rfl, rfl⟩
       refine RD.n rfl (p_extract rfl rfl rfl) ?_
       refine RD.n rfl (p_extract rfl rfl rfl) ?_
       refine RD.n rfl (p_assign rfl (by conv => lhs; whnf)) ?_
       refine RD.n rfl (p_assign rfl (by conv => lhs; whnf)) ?_
       refine RD.nil ?_
       refine hK15 _ _ ?_
       refine T.ret ?_
       refine Post.block_r ?_
       refine Post.seq_r ?_
       have he : stepV c es t x = ((reaV es t (nmT x.a) x.at_ x.n).1, (reaV es t (nmT x.a) x.at_ x.n).2, es, t) := by unfold stepV; rw [if_neg h8, if_neg h17, if_neg h24, if_neg h34, if_neg h44, if_pos h57]
       refine bodyQ_ret [row s 72 (stC 24 a c ((stepV c es t x).2.2.1)), arrA 63 57 5 a ((stepV c es t x).2.2.2)] (RetRun.tmp (RetRun.tmp RetRun.nil)) ⟨by rw [he]; rfl, rfl⟩ (by rw [he]; exact Ent.pull_drop (is := [0, 0, 1]) rfl)
      ·
       refine T.skip ?_
       refine hK2 _ _ ?_
       refine T.seq fun K16 hK16 => ?_
       refine T.region (l := [0, 1]) rfl ?_
       refine RN.a rfl ?_
       refine RN.a rfl ?_
       refine RN.nil ?_
       refine hK16 _ _ ?_
       refine T.ret ?_
       have he : stepV c es t x = ([], 0, es, t) := by unfold stepV; rw [if_neg h8, if_neg h17, if_neg h24, if_neg h34, if_neg h44, if_neg h57]
       refine bodyQ_ret [row s 72 (stC 24 a c ((stepV c es t x).2.2.1)), arrA 63 57 5 a ((stepV c es t x).2.2.2)] (RetRun.tmp (RetRun.tmp RetRun.nil)) ⟨by rw [he]; rfl, rfl⟩ (by rw [he]; exact Ent.drop _ _)

end Go.Proofs.YtbbgajjonodlfaaGreat
