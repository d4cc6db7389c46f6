/-
 Walk of VolApart.
-/
import Derived.Test.YtbbgajjonodlfaaGreatGYvV5
import Derived.Test.YtbbgajjonodlfaaGreatGModelVo
import Derived.Test.YtbbgajjonodlfaaGreatGEvS6vT0
import Derived.Test.YtbbgajjonodlfaaGreatGYvTy
import Derived.Test.YtbbgajjonodlfaaGreatGSl9
import Derived.Test.YtbbgajjonodlfaaGreatRows
import Derived.ChangeMaps5
import Derived.SizedLaws
set_option linter.unusedVariables false
set_option linter.unusedSimpArgs false
namespace Go.Proofs.YtbbgajjonodlfaaGreat
open Go Go.Sl Go.Proofs
set_option maxRecDepth 20000
open Go.Mo Go.Evl
theorem flE_at0 {es : List VE} {j : Nat} {rest : List Value} (h : j < es.length) : (flE es ++ rest)[0 + j * 3 + 0]? = some (strV es[j].name) := flE_atK (k := 0) h rfl
theorem flE_at1 {es : List VE} {j : Nat} {rest : List Value} (h : j < es.length) : (flE es ++ rest)[0 + j * 3 + 1]? = some (intV es[j].first) := flE_atK (k := 1) h rfl
theorem flE_at2 {es : List VE} {j : Nat} {rest : List Value} (h : j < es.length) : (flE es ++ rest)[0 + j * 3 + 2]? = some (intV es[j].len) := flE_atK (k := 2) h rfl

theorem VolApart_bad (w0 : World) (size : Int) (first : List UInt8) (q : Option Addr) (scap : Nat) (cs : List VAct) (data : List UInt8) (hs : size < 1 ∨ 512 < size) : Ctr Tryz.prog 4 [.int .i64 size, strV first, .slice q cs.length scap, strV data] [old w0] (fun v Ps => v = .bool true ∧ Ps = [old w0]) := by
 refine Ctr.of_body Tryz.func4 rfl (by kernel_rfl) Tryz.ntmps4 rfl rfl (fun Fr => ?_)
 refine T.seq fun K1 hK1 => ?_
 refine T.region (l := [0]) rfl ?_
 refine RN.a rfl ?_
 refine RN.nil ?_
 refine hK1 _ _ ?_
 refine T.seq fun K2 hK2 => ?_
 refine T.seq fun K3 hK3 => ?_
 refine T.region (l := [0, 1]) rfl ?_
 refine RN.C [] rfl rfl rfl rfl (c_call rfl rfl) (awake25) rfl ?_
 rintro _ _ ⟨rfl, rfl⟩
 refine RN.p rfl (by first | exact (p_not_dec rfl rfl) | exact (p_not rfl rfl)) ?_
 refine RN.nil ?_
 refine hK3 _ _ ?_
 refine T.known 24 rfl (show _ = Value.bool false from rfl) ?_
 refine T.cond_f rfl ?_
 refine T.skip ?_
 refine hK2 _ _ ?_
 refine T.seq fun K4 hK4 => ?_
 refine T.region (l := [0, 1, 2, 3, 4, 5, 6]) rfl ?_
 refine RN.m rfl ?_
 refine RN.C [] rfl rfl rfl rfl (c_call rfl rfl) (New_A size) rfl ?_
 rintro v27 Ps27 hq27
 obtain ⟨rfl, rfl⟩ := NewA_no hq27 (by omega)
 refine RN.m rfl ?_
 refine RN.p rfl (p_extract rfl rfl rfl) ?_
 refine RN.p rfl (p_extract rfl rfl rfl) ?_
 refine RN.a rfl ?_
 refine RN.a rfl ?_
 refine RN.nil ?_
 refine hK4 _ _ ?_
 refine T.seq fun K5 hK5 => ?_
 refine T.seq fun K6 hK6 => ?_
 refine T.region (l := [0, 1, 2, 3, 4, 5, 6, 7, 8, 9, 10, 11, 12, 13, 14]) rfl ?_
 refine RN.m rfl ?_
 refine RN.p rfl (p_neq rfl rfl rfl) ?_
 refine RN.m rfl ?_
 refine RN.known 32 rfl (show _ = Value.bool true from rfl) ?_
 refine RN.no0 rfl ?_
 refine RN.no0 rfl ?_
 refine RN.pt rfl ?_
 refine RN.m rfl ?_
 refine RN.no0 rfl ?_
 refine RN.no0 rfl ?_
 refine RN.pt rfl ?_
 refine RN.m rfl ?_
 refine RN.no0 rfl ?_
 refine RN.no0 rfl ?_
 refine RN.no0 rfl ?_
 refine RN.pt rfl ?_
 refine RN.nil ?_
 refine hK6 _ _ ?_
 refine T.cond_t rfl ?_
 refine T.seq fun K7 hK7 => ?_
 refine T.region (l := [0]) rfl ?_
 refine RN.a rfl ?_
 refine RN.nil ?_
 refine hK7 _ _ ?_
 refine T.ret ?_
 refine Post.seq_r ?_
 refine bodyQ_ret [old w0] (RetRun.tmp RetRun.nil) ⟨rfl, rfl⟩ (Ent.refl _)

theorem VolApart_skip (w0 : World) (size : Int) (first : List UInt8) (q : Option Addr) (scap : Nat) (cs : List VAct) (data : List UInt8) (hs : 1 ≤ size ∧ size ≤ 512) (hb : 25 < cs.length ∨ size < 9 ∨ 64 < size) : Ctr Tryz.prog 4 [.int .i64 size, strV first, .slice q cs.length scap, strV data] [old w0] (fun v Ps => v = .bool true ∧ Ps = [old w0]) := by
 refine Ctr.of_body Tryz.func4 rfl (by kernel_rfl) Tryz.ntmps4 rfl rfl (fun Fr => ?_)
 refine T.seq fun K1 hK1 => ?_
 refine T.region (l := [0]) rfl ?_
 refine RN.a rfl ?_
 refine RN.nil ?_
 refine hK1 _ _ ?_
 refine T.seq fun K2 hK2 => ?_
 refine T.seq fun K3 hK3 => ?_
 refine T.region (l := [0, 1]) rfl ?_
 refine RN.C [] rfl rfl rfl rfl (c_call rfl rfl) (awake25) rfl ?_
 rintro _ _ ⟨rfl, rfl⟩
 refine RN.p rfl (by first | exact (p_not_dec rfl rfl) | exact (p_not rfl rfl)) ?_
 refine RN.nil ?_
 refine hK3 _ _ ?_
 refine T.known 24 rfl (show _ = Value.bool false from rfl) ?_
 refine T.cond_f rfl ?_
 refine T.skip ?_
 refine hK2 _ _ ?_
 refine T.seq fun K4 hK4 => ?_
 refine T.region (l := [0, 1, 2, 3, 4, 5, 6]) rfl ?_
 refine RN.m rfl ?_
 refine RN.C [] rfl rfl rfl rfl (c_call rfl rfl) (New_A size) rfl ?_
 rintro v27 Ps27 hq27
 obtain ⟨a, rfl, rfl⟩ := NewA_yes hq27 (by omega)
 refine RN.m rfl ?_
 refine RN.p rfl (p_extract rfl rfl rfl) ?_
 refine RN.p rfl (p_extract rfl rfl rfl) ?_
 refine RN.a rfl ?_
 refine RN.a rfl ?_
 refine RN.nil ?_
 refine hK4 _ _ ?_
 refine T.seq fun K5 hK5 => ?_
 refine T.seq fun K6 hK6 => ?_
 refine T.region (l := [0, 1, 2, 3, 4, 5, 6, 7, 8, 9, 10, 11, 12, 13, 14]) rfl ?_
 refine RN.m rfl ?_
 refine RN.p rfl (p_neq rfl rfl rfl) ?_
 refine RN.m rfl ?_
 refine RN.known 32 rfl (show _ = Value.bool false from rfl) ?_
 refine RN.m rfl ?_
 refine RN.p rfl (p_lss rfl rfl rfl) ?_
 refine RN.pf rfl ?_
 refine RN.m rfl ?_
 first | refine RN.split_dec 36 rfl (fun h36 => ?_) (fun h36 => ?_) | refine RN.split 36 rfl (fun h36 => ?_) (fun h36 => ?_)
 ·
  refine RN.no0 rfl ?_
  refine RN.no0 rfl ?_
  refine RN.pt rfl ?_
  refine RN.m rfl ?_
  refine RN.no0 rfl ?_
  refine RN.no0 rfl ?_
  refine RN.no0 rfl ?_
  refine RN.pt rfl ?_
  refine RN.nil ?_
  refine hK6 _ _ ?_
  refine T.cond_t rfl ?_
  refine T.seq fun K7 hK7 => ?_
  refine T.region (l := [0]) rfl ?_
  refine RN.a rfl ?_
  refine RN.nil ?_
  refine hK7 _ _ ?_
  refine T.ret ?_
  refine Post.seq_r ?_
  refine bodyQ_ret [old w0] (RetRun.tmp RetRun.nil) ⟨rfl, rfl⟩ (Ent.pull_drop (is := [1, 1]) rfl)
 ·
  refine RN.m rfl ?_
  refine RN.p rfl (p_gtr rfl rfl rfl) ?_
  refine RN.pf rfl ?_
  refine RN.m rfl ?_
  first | refine RN.split_dec 40 rfl (fun h40 => ?_) (fun h40 => ?_) | refine RN.split 40 rfl (fun h40 => ?_) (fun h40 => ?_)
  ·
   refine RN.no0 rfl ?_
   refine RN.no0 rfl ?_
   refine RN.no0 rfl ?_
   refine RN.pt rfl ?_
   refine RN.nil ?_
   refine hK6 _ _ ?_
   refine T.cond_t rfl ?_
   refine T.seq fun K8 hK8 => ?_
   refine T.region (l := [0]) rfl ?_
   refine RN.a rfl ?_
   refine RN.nil ?_
   refine hK8 _ _ ?_
   refine T.ret ?_
   refine Post.seq_r ?_
   refine bodyQ_ret [old w0] (RetRun.tmp RetRun.nil) ⟨rfl, rfl⟩ (Ent.pull_drop (is := [1, 1]) rfl)
  ·
   refine RN.m rfl ?_
   refine RN.p rfl (p_len rfl Tryz.underlying22 rfl) ?_
   refine RN.p rfl (p_gtr rfl rfl rfl) ?_
   refine RN.pf rfl ?_
   refine RN.nil ?_
   refine hK6 _ _ ?_
   first | refine T.cond_dec rfl (fun h44 => ?_) (fun h44 => ?_) | refine T.cond rfl (fun h44 => ?_) (fun h44 => ?_)
   ·
    refine T.seq fun K9 hK9 => ?_
    refine T.region (l := [0]) rfl ?_
    refine RN.a rfl ?_
    refine RN.nil ?_
    refine hK9 _ _ ?_
    refine T.ret ?_
    refine Post.seq_r ?_
    refine bodyQ_ret [old w0] (RetRun.tmp RetRun.nil) ⟨rfl, rfl⟩ (Ent.pull_drop (is := [1, 1]) rfl)
   ·
    exfalso; omega --done

end Go.Proofs.YtbbgajjonodlfaaGreat
namespace Go.Proofs.YtbbgajjonodlfaaGreat
open Go Go.Sl Go.Proofs
set_option maxRecDepth 20000
open Go.Mo Go.Evl
theorem VolApart_run (w0 : World) (sz : Nat) (first : List UInt8) (q : Option Addr) (scap : Nat) (cs : List VAct) (data : List UInt8) (hs : 9 ≤ sz ∧ sz ≤ 64) (hl : cs.length ≤ 25) (hq : 0 < cs.length → ∃ b off, q = some ⟨b, off, none⟩ ∧ ∀ i (hi : i < cs.length), At w0 b (off + i * 6) cs[i].cells) : Ctr Tryz.prog 4 [intV sz, strV first, .slice q cs.length scap, strV data] [old w0] (fun v Ps => v = .bool true ∧ Ps = [old w0]) := by
 refine Ctr.of_body Tryz.func4 rfl (by kernel_rfl) Tryz.ntmps4 rfl rfl (fun Fr => ?_)
 refine T.seq fun K1 hK1 => ?_
 refine T.region (l := [0]) rfl ?_
 refine RN.a rfl ?_
 refine RN.nil ?_
 refine hK1 _ _ ?_
 refine T.seq fun K2 hK2 => ?_
 refine T.seq fun K3 hK3 => ?_
 refine T.region (l := [0, 1]) rfl ?_
 refine RN.C [] rfl rfl rfl rfl (c_call rfl rfl) (awake25) rfl ?_
 rintro _ _ ⟨rfl, rfl⟩
 refine RN.p rfl (by first | exact (p_not_dec rfl rfl) | exact (p_not rfl rfl)) ?_
 refine RN.nil ?_
 refine hK3 _ _ ?_
 refine T.known 24 rfl (show _ = Value.bool false from rfl) ?_
 refine T.cond_f rfl ?_
 refine T.skip ?_
 refine hK2 _ _ ?_
 refine T.seq fun K4 hK4 => ?_
 refine T.region (l := [0, 1, 2, 3, 4, 5, 6]) rfl ?_
 refine RN.m rfl ?_
 refine RN.C [] rfl rfl rfl rfl (c_call rfl rfl) (New_A (sz : Int)) rfl ?_
 rintro v27 Ps27 hq27
 obtain ⟨a, rfl, rfl⟩ := NewA_yes hq27 (by omega)
 rw [Int.toNat_natCast]
 refine RN.m rfl ?_
 refine RN.p rfl (p_extract rfl rfl rfl) ?_
 refine RN.p rfl (p_extract rfl rfl rfl) ?_
 refine RN.a rfl ?_
 refine RN.a rfl ?_
 refine RN.nil ?_
 refine hK4 _ _ ?_
 refine T.seq fun K5 hK5 => ?_
 refine T.seq fun K6 hK6 => ?_
 refine T.region (l := [0, 1, 2, 3, 4, 5, 6, 7, 8, 9, 10, 11, 12, 13, 14]) rfl ?_
 refine RN.m rfl ?_
 refine RN.p rfl (p_neq rfl rfl rfl) ?_
 refine RN.m rfl ?_
 refine RN.known 32 rfl (show _ = Value.bool false from rfl) ?_
 refine RN.m rfl ?_
 refine RN.p rfl (p_lss rfl rfl rfl) ?_
 refine RN.pf rfl ?_
 refine RN.m rfl ?_
 refine RN.known 36 rfl (show _ = Value.bool false from congrArg Value.bool (decide_eq_false (by omega))) ?_
 refine RN.m rfl ?_
 refine RN.p rfl (p_gtr rfl rfl rfl) ?_
 refine RN.pf rfl ?_
 refine RN.m rfl ?_
 refine RN.known 40 rfl (show _ = Value.bool false from congrArg Value.bool (decide_eq_false (by omega))) ?_
 refine RN.m rfl ?_
 refine RN.p rfl (p_len rfl Tryz.underlying22 rfl) ?_
 refine RN.p rfl (p_gtr rfl rfl rfl) ?_
 refine RN.pf rfl ?_
 refine RN.nil ?_
 refine hK6 _ _ ?_
 refine T.known 44 rfl (show _ = Value.bool false from congrArg Value.bool (decide_eq_false (by omega))) ?_
 refine T.cond_f rfl ?_
 refine T.skip ?_
 refine hK5 _ _ ?_
 refine T.seq fun K7 hK7 => ?_
 refine T.region (l := [0, 1, 2, 3]) rfl ?_
 refine RN.m rfl ?_
 refine RN.m rfl ?_
 refine RN.m rfl ?_
 refine RN.C [0] rfl rfl rfl rfl (c_call rfl rfl) (Write_A a (List.replicate (sz * 32) 0) 0 sz first) rfl ?_
 rintro v48 _ ⟨hv48, rfl⟩
 have ht0 : (wrT (List.replicate (sz * 32) 0) 0 sz first).length = sz * 32 := by rw [wrT_length, List.length_replicate]
 refine RN.nil ?_
 refine hK7 _ _ ?_
 refine T.seq fun K8 hK8 => ?_
 refine T.region (l := [0, 1, 2, 3, 4, 5, 6, 7]) rfl ?_
 refine RN.m rfl ?_
 refine RN.p rfl (p_makeIfaceP rfl Tryz.underlying24 rfl) ?_
 refine RN.C [0] rfl rfl rfl rfl (c_call rfl rfl) (Open_yes a sz (wrT (List.replicate (sz * 32) 0) 0 sz first) (by omega) ht0) rfl ?_
 rintro v52 _ ⟨s, rfl, rfl⟩
 refine RN.m rfl ?_
 refine RN.p rfl (p_extract rfl rfl rfl) ?_
 refine RN.p rfl (p_extract rfl rfl rfl) ?_
 refine RN.a rfl ?_
 refine RN.a rfl ?_
 refine RN.nil ?_
 refine hK8 _ _ ?_
 refine T.seq fun K9 hK9 => ?_
 refine T.seq fun K10 hK10 => ?_
 refine T.region (l := [0, 1]) rfl ?_
 refine RN.m rfl ?_
 refine RN.p rfl (p_neq rfl rfl rfl) ?_
 refine RN.nil ?_
 refine hK10 _ _ ?_
 refine T.known 56 rfl (show _ = Value.bool false from congrArg Value.bool (decide_eq_false (not_not_intro rfl))) ?_
 refine T.cond_f rfl ?_
 refine T.skip ?_
 refine hK9 _ _ ?_
 refine T.seq fun K11 hK11 => ?_
 refine T.seq fun K12 hK12 => ?_
 refine T.region (l := [0]) rfl ?_
 refine RN.a rfl ?_
 refine RN.nil ?_
 refine hK12 _ _ ?_
 refine T.block ?_
 refine T.loop (G := Nat × List VE × List UInt8) (fun ⟨i, es, t⟩ => i ≤ cs.length ∧ VInv sz es ∧ t.length = sz * 32) (fun ⟨i, es, t⟩ => [(0, intV sz), (3, strV data), (9, ptr a 0), (11, ptr s 0), (2, .slice q cs.length scap), (12, intV i)]) (fun ⟨i, es, t⟩ => [row s 72 (stC 24 a sz es), arrA 63 57 5 a t, old w0, Fr]) (fun ⟨i, es, t⟩ => cs.length - i) (0, opE sz (wrT (List.replicate (sz * 32) 0) 0 sz first) 8, wrT (List.replicate (sz * 32) 0) 0 sz first) ⟨Nat.zero_le _, op_inv8 _ _, ht0⟩ (LiveIs.cons rfl (LiveIs.cons rfl (LiveIs.cons rfl (LiveIs.cons rfl (LiveIs.cons rfl (LiveIs.cons rfl LiveIs.nil)))))) (Ent.refl _) ?_
 rintro ⟨i, es, t⟩ e13 ⟨hik, hv, ht⟩
 dsimp only
 refine T.seq fun K14 hK14 => ?_
 refine T.seq fun K15 hK15 => ?_
 refine T.region (l := [0, 1, 2, 3]) rfl ?_
 refine RN.m rfl ?_
 refine RN.m rfl ?_
 refine RN.p rfl (p_len rfl Tryz.underlying22 rfl) ?_
 refine RN.p rfl (p_lss rfl rfl rfl) ?_
 refine RN.nil ?_
 refine hK15 _ _ ?_
 first | refine T.cond_dec rfl (fun h60 => ?_) (fun h60 => ?_) | refine T.cond rfl (fun h60 => ?_) (fun h60 => ?_)
 ·
  have hi : i < cs.length := by omega
  obtain ⟨sb, so, rfl, hat⟩ := hq (by omega)
  refine T.skip ?_
  refine hK14 _ _ ?_
  refine T.seq fun K16 hK16 => ?_
  refine T.block ?_
  refine T.region (l := [0, 1, 2, 3, 4, 5]) rfl ?_
  refine RN.m rfl ?_
  refine RN.m rfl ?_
  refine RN.m rfl ?_
  refine RN.p rfl (by first | exact (p_indexAddrN rfl Tryz.underlying22 ts_38 rfl rfl (by omega)) | exact (p_indexAddr rfl Tryz.underlying22 ts_38 rfl rfl (by omega))) ?_
  refine RN.u rfl (QRun.ent ((Ent.pull_drop (is := [2]) rfl).trans (Ent.cons (old_cellsAt (hat i hi)) (Ent.refl _))) (q_loadC rfl ag_38 ts_38 rfl (i := 0) rfl rfl)) ?_
  refine RN.C [0, 0] rfl rfl rfl rfl (c_call rfl rfl) (step_spec s a sz es t cs[i] hv (by omega) ht) rfl ?_
  rintro _ _ ⟨rfl, rfl⟩
  refine RN.nil ?_
  refine hK16 _ _ ?_
  refine T.region (l := [0, 1, 2]) rfl ?_
  refine RN.m rfl ?_
  refine RN.p rfl (by first | exact (p_addN (b := 1) rfl rfl rfl (by omega)) | exact (p_add rfl rfl rfl (by omega))) ?_
  refine RN.a rfl ?_
  refine RN.nil ?_
  refine ⟨(i + 1, (stepV sz es t cs[i]).2.2.1, (stepV sz es t cs[i]).2.2.2), ⟨by omega, step_inv hv _ _, (step_len _ _ _ _).trans ht⟩, (by simp; omega), (LiveIs.cons rfl (LiveIs.cons rfl (LiveIs.cons rfl (LiveIs.cons rfl (LiveIs.cons rfl (LiveIs.cons rfl LiveIs.nil)))))), Ent.refl _⟩
 ·
  refine T.exit ?_
  refine Post.seq_x ?_
  refine Post.seq_x ?_
  refine Post.block_hit ?_
  refine hK11 _ _ ?_
  refine T.seq fun K17 hK17 => ?_
  refine T.region (l := [0, 1, 2]) rfl ?_
  refine RN.m rfl ?_
  refine RN.C [0] rfl rfl rfl rfl (c_call rfl rfl) (Volumes_spec s a sz es hv.len) rfl ?_
  rintro v70 _ ⟨hv70, rfl⟩
  have hvn := vols_len es
  have hvl := hv.len
  refine RN.a rfl ?_
  refine RN.nil ?_
  refine hK17 _ _ ?_
  refine T.seq fun K18 hK18 => ?_
  refine T.region (l := [0, 1, 2]) rfl ?_
  refine RN.m rfl ?_
  refine RN.E rfl rfl rfl rfl (by first | exact (e_makeSliceN rfl Tryz.underlying47 ti_4 rfl rfl rfl (by omega)) | exact (e_makeSlice rfl Tryz.underlying47 ti_4 rfl rfl rfl (by omega))) ?_
  rintro _ _ ⟨b72, rfl, rfl⟩
  refine RN.a rfl ?_
  refine RN.nil ?_
  refine hK18 _ _ ?_
  refine T.seq fun K19 hK19 => ?_
  refine T.region (l := [0, 1, 2]) rfl ?_
  refine RN.m rfl ?_
  refine RN.p rfl (by first | exact (p_subN (b := 8) rfl rfl rfl (by omega)) | exact (p_sub rfl rfl rfl (by omega))) ?_
  refine RN.a rfl ?_
  refine RN.nil ?_
  refine hK19 _ _ ?_
  refine T.seq fun K20 hK20 => ?_
  refine T.seq fun K21 hK21 => ?_
  rw [usT_zero]
  refine T.region (l := [0]) rfl ?_
  refine RN.a rfl ?_
  refine RN.nil ?_
  refine hK21 _ _ ?_
  refine T.block ?_
  refine T.loop (G := Nat × (Nat → Bool)) (fun ⟨i, f⟩ => i ≤ (volsE es).length ∧ ∀ p, f p = true → cvE (volsE es) i p) (fun ⟨i, f⟩ => [(0, intV sz), (3, strV data), (9, ptr a 0), (11, ptr s 0), (13, v70), (14, slc b72 0 sz sz), (15, .int .i64 ((sz : Int) - 8 - (sumL ((volsE es).take i) : Nat))), (16, intV i)]) (fun ⟨i, f⟩ => [vec 49 3 v70 (volsE es).length (flE (volsE es)), row b72 4 (usT f sz), row s 72 (stC 24 a sz es), arrA 63 57 5 a t, old w0, Fr]) (fun ⟨i, f⟩ => (volsE es).length - i) (0, fun _ => false) ⟨Nat.zero_le _, fun p h => by cases h⟩ (LiveIs.cons rfl (LiveIs.cons rfl (LiveIs.cons rfl (LiveIs.cons rfl (LiveIs.cons rfl (LiveIs.cons rfl (LiveIs.cons (congrArg (Value.int .i64) (show ((sz - 8 : Nat) : Int) = (sz : Int) - 8 - ((0 : Nat) : Int) by omega)) (LiveIs.cons rfl LiveIs.nil)))))))) (Ent.pull_drop (is := [1, 0, 0, 0, 0, 0]) rfl) ?_
  rintro ⟨i, f⟩ e22 ⟨hik, hfi⟩
  dsimp only
  refine T.seq fun K23 hK23 => ?_
  refine T.seq fun K24 hK24 => ?_
  refine T.region (l := [0, 1, 2, 3]) rfl ?_
  refine RN.m rfl ?_
  refine RN.m rfl ?_
  refine RN.u rfl (q_len_vec rfl Tryz.underlying45 rfl (i := 0) rfl) ?_
  refine RN.p rfl (p_lss rfl rfl rfl) ?_
  refine RN.nil ?_
  refine hK24 _ _ ?_
  first | refine T.cond_dec rfl (fun h78 => ?_) (fun h78 => ?_) | refine T.cond rfl (fun h78 => ?_) (fun h78 => ?_)
  ·
   have hi : i < (volsE es).length := by omega
   have hvb := vols_bound hv hi
   have hok := hvb.1
   have hokf := hok.2.2.1
   have hokl := hok.2.2.2
   have hsl := sumL_take hi
   have hsb : sumL ((volsE es).take i) ≤ 8 * 64 := Nat.le_trans (sumL_bnd hv (i := i) (by omega)) (Nat.mul_le_mul (by omega) (by omega))
   refine T.skip ?_
   refine hK23 _ _ ?_
   refine T.seq fun K25 hK25 => ?_
   refine T.block ?_
   refine T.seq fun K26 hK26 => ?_
   refine T.seq fun K27 hK27 => ?_
   refine T.openVec 0 rfl (by omega) ?_
   rintro bv capv restv rfl hw1 hw2 hw3
   refine T.regionD (z := 38) (Bs := [row bv 49 (flE (volsE es) ++ restv)]) (l := [(0, .pure), (1, .pure), (2, .pure), (3, .pure), (4, .load), (5, .eff), (6, .pure), (7, .pure), (8, .pure), (9, .pure), (10, .pure), (11, .pure), (12, .load), (13, .pure), (14, .pure), (15, .pure), (16, .pure), (17, .pure), (18, .pure), (19, .pure), (20, .load), (21, .pure), (22, .pure), (23, .pure), (24, .pure), (25, .pure), (26, .pure), (27, .pure), (28, .load), (29, .pure), (30, .pure), (31, .pure), (32, .pure), (33, .pure), (34, .load), (35, .pure), (36, .pure), (37, .pure)]) mixed (by kernel_rfl) (by first | exact Ent.refl _ | exact Ent.pull_drop (is := [0]) rfl | exact Ent.pull_drop (is := [1]) rfl | exact Ent.pull_drop (is := [2]) rfl | exact Ent.pull_drop (is := [3]) rfl | exact Ent.pull_drop (is := [4]) rfl | exact Ent.pull_drop (is := [5]) rfl | exact Ent.pull_drop (is := [6]) rfl | exact Ent.pull_drop (is := [7]) rfl) ?_
   refine RD.n rfl (p_move rfl (by conv => lhs; whnf)) ?_
   refine RD.n rfl (p_move rfl (by conv => lhs; whnf)) ?_
   refine RD.n rfl (by first | exact (p_indexAddrN rfl Tryz.underlying45 ts_49 rfl rfl (by omega)) | exact (p_indexAddr rfl Tryz.underlying45 ts_49 rfl rfl (by omega))) ?_
   refine RD.n rfl (p_fieldAddr rfl fa_49_0 rfl) ?_
   refine RD.qq rfl rfl rfl rfl (by first | exact (q_load rfl sc_9 rfl (i := 0) rfl (flE_at0 hi)) | exact (q_load rfl sc_9 rfl (i := 1) rfl (flE_at0 hi)) | exact (q_load rfl sc_9 rfl (i := 2) rfl (flE_at0 hi)) | exact (q_load rfl sc_9 rfl (i := 3) rfl (flE_at0 hi)) | exact (q_load rfl sc_9 rfl (i := 4) rfl (flE_at0 hi)) | exact (q_load rfl sc_9 rfl (i := 5) rfl (flE_at0 hi)) | exact (q_load rfl sc_9 rfl (i := 6) rfl (flE_at0 hi))) (by first | exact Ent.refl _ | exact Ent.pull_drop (is := [0]) rfl | exact Ent.pull_drop (is := [1]) rfl | exact Ent.pull_drop (is := [2]) rfl | exact Ent.pull_drop (is := [3]) rfl | exact Ent.pull_drop (is := [4]) rfl | exact Ent.pull_drop (is := [5]) rfl | exact Ent.pull_drop (is := [6]) rfl | exact Ent.pull_drop (is := [7]) rfl) ?_
   refine RD.C [] rfl rfl rfl rfl (c_call rfl rfl) (Good_A (volsE es)[i].name) rfl (by rintro _ _ ⟨rfl, rfl⟩; exact .inl (by first | exact Ent.refl _ | exact Ent.pull_drop (is := [0]) rfl | exact Ent.pull_drop (is := [1]) rfl | exact Ent.pull_drop (is := [2]) rfl | exact Ent.pull_drop (is := [3]) rfl | exact Ent.pull_drop (is := [4]) rfl | exact Ent.pull_drop (is := [5]) rfl | exact Ent.pull_drop (is := [6]) rfl | exact Ent.pull_drop (is := [7]) rfl)) ?_
   rintro _ _ ⟨rfl, rfl⟩
   refine RD.n rfl (by first | exact (p_not_dec rfl rfl) | exact (p_not rfl rfl)) ?_
   refine RD.n rfl (p_move rfl (by conv => lhs; whnf)) ?_
   refine RD.known 88 rfl (show _ = Value.bool false from (congrArg (fun b => Value.bool (!b)) hvb.1.1)) ?_
   refine RD.n rfl (p_move rfl (by conv => lhs; whnf)) ?_
   refine RD.n rfl (p_move rfl (by conv => lhs; whnf)) ?_
   refine RD.n rfl (by first | exact (p_indexAddrN rfl Tryz.underlying45 ts_49 rfl rfl (by omega)) | exact (p_indexAddr rfl Tryz.underlying45 ts_49 rfl rfl (by omega))) ?_
   refine RD.n rfl (p_fieldAddr rfl fa_49_1 rfl) ?_
   refine RD.qq rfl rfl rfl rfl (by first | exact (q_load rfl sc_3 rfl (i := 0) rfl (flE_at1 hi)) | exact (q_load rfl sc_3 rfl (i := 1) rfl (flE_at1 hi)) | exact (q_load rfl sc_3 rfl (i := 2) rfl (flE_at1 hi)) | exact (q_load rfl sc_3 rfl (i := 3) rfl (flE_at1 hi)) | exact (q_load rfl sc_3 rfl (i := 4) rfl (flE_at1 hi)) | exact (q_load rfl sc_3 rfl (i := 5) rfl (flE_at1 hi)) | exact (q_load rfl sc_3 rfl (i := 6) rfl (flE_at1 hi))) (by first | exact Ent.refl _ | exact Ent.pull_drop (is := [0]) rfl | exact Ent.pull_drop (is := [1]) rfl | exact Ent.pull_drop (is := [2]) rfl | exact Ent.pull_drop (is := [3]) rfl | exact Ent.pull_drop (is := [4]) rfl | exact Ent.pull_drop (is := [5]) rfl | exact Ent.pull_drop (is := [6]) rfl | exact Ent.pull_drop (is := [7]) rfl) ?_
   refine RD.n rfl (p_lss rfl rfl rfl) ?_
   refine RD.n rfl (p_pick_f rfl rfl (by conv => lhs; whnf)) ?_
   refine RD.n rfl (p_move rfl (by conv => lhs; whnf)) ?_
   refine RD.known 96 rfl (show _ = Value.bool false from congrArg Value.bool (decide_eq_false (by omega))) ?_
   refine RD.n rfl (p_move rfl (by conv => lhs; whnf)) ?_
   refine RD.n rfl (p_move rfl (by conv => lhs; whnf)) ?_
   refine RD.n rfl (by first | exact (p_indexAddrN rfl Tryz.underlying45 ts_49 rfl rfl (by omega)) | exact (p_indexAddr rfl Tryz.underlying45 ts_49 rfl rfl (by omega))) ?_
   refine RD.n rfl (p_fieldAddr rfl fa_49_2 rfl) ?_
   refine RD.qq rfl rfl rfl rfl (by first | exact (q_load rfl sc_3 rfl (i := 0) rfl (flE_at2 hi)) | exact (q_load rfl sc_3 rfl (i := 1) rfl (flE_at2 hi)) | exact (q_load rfl sc_3 rfl (i := 2) rfl (flE_at2 hi)) | exact (q_load rfl sc_3 rfl (i := 3) rfl (flE_at2 hi)) | exact (q_load rfl sc_3 rfl (i := 4) rfl (flE_at2 hi)) | exact (q_load rfl sc_3 rfl (i := 5) rfl (flE_at2 hi)) | exact (q_load rfl sc_3 rfl (i := 6) rfl (flE_at2 hi))) (by first | exact Ent.refl _ | exact Ent.pull_drop (is := [0]) rfl | exact Ent.pull_drop (is := [1]) rfl | exact Ent.pull_drop (is := [2]) rfl | exact Ent.pull_drop (is := [3]) rfl | exact Ent.pull_drop (is := [4]) rfl | exact Ent.pull_drop (is := [5]) rfl | exact Ent.pull_drop (is := [6]) rfl | exact Ent.pull_drop (is := [7]) rfl) ?_
   refine RD.n rfl (p_lss rfl rfl rfl) ?_
   refine RD.n rfl (p_pick_f rfl rfl (by conv => lhs; whnf)) ?_
   refine RD.n rfl (p_move rfl (by conv => lhs; whnf)) ?_
   refine RD.known 104 rfl (show _ = Value.bool false from congrArg Value.bool (decide_eq_false (by omega))) ?_
   refine RD.n rfl (p_move rfl (by conv => lhs; whnf)) ?_
   refine RD.n rfl (p_move rfl (by conv => lhs; whnf)) ?_
   refine RD.n rfl (by first | exact (p_indexAddrN rfl Tryz.underlying45 ts_49 rfl rfl (by omega)) | exact (p_indexAddr rfl Tryz.underlying45 ts_49 rfl rfl (by omega))) ?_
   refine RD.n rfl (p_fieldAddr rfl fa_49_1 rfl) ?_
   refine RD.qq rfl rfl rfl rfl (by first | exact (q_load rfl sc_3 rfl (i := 0) rfl (flE_at1 hi)) | exact (q_load rfl sc_3 rfl (i := 1) rfl (flE_at1 hi)) | exact (q_load rfl sc_3 rfl (i := 2) rfl (flE_at1 hi)) | exact (q_load rfl sc_3 rfl (i := 3) rfl (flE_at1 hi)) | exact (q_load rfl sc_3 rfl (i := 4) rfl (flE_at1 hi)) | exact (q_load rfl sc_3 rfl (i := 5) rfl (flE_at1 hi)) | exact (q_load rfl sc_3 rfl (i := 6) rfl (flE_at1 hi))) (by first | exact Ent.refl _ | exact Ent.pull_drop (is := [0]) rfl | exact Ent.pull_drop (is := [1]) rfl | exact Ent.pull_drop (is := [2]) rfl | exact Ent.pull_drop (is := [3]) rfl | exact Ent.pull_drop (is := [4]) rfl | exact Ent.pull_drop (is := [5]) rfl | exact Ent.pull_drop (is := [6]) rfl | exact Ent.pull_drop (is := [7]) rfl) ?_
   refine RD.n rfl (p_move rfl (by conv => lhs; whnf)) ?_
   refine RD.n rfl (p_move rfl (by conv => lhs; whnf)) ?_
   refine RD.n rfl (p_move rfl (by conv => lhs; whnf)) ?_
   refine RD.n rfl (by first | exact (p_indexAddrN rfl Tryz.underlying45 ts_49 rfl rfl (by omega)) | exact (p_indexAddr rfl Tryz.underlying45 ts_49 rfl rfl (by omega))) ?_
   refine RD.n rfl (p_fieldAddr rfl fa_49_2 rfl) ?_
   refine RD.qq rfl rfl rfl rfl (by first | exact (q_load rfl sc_3 rfl (i := 0) rfl (flE_at2 hi)) | exact (q_load rfl sc_3 rfl (i := 1) rfl (flE_at2 hi)) | exact (q_load rfl sc_3 rfl (i := 2) rfl (flE_at2 hi)) | exact (q_load rfl sc_3 rfl (i := 3) rfl (flE_at2 hi)) | exact (q_load rfl sc_3 rfl (i := 4) rfl (flE_at2 hi)) | exact (q_load rfl sc_3 rfl (i := 5) rfl (flE_at2 hi)) | exact (q_load rfl sc_3 rfl (i := 6) rfl (flE_at2 hi))) (by first | exact Ent.refl _ | exact Ent.pull_drop (is := [0]) rfl | exact Ent.pull_drop (is := [1]) rfl | exact Ent.pull_drop (is := [2]) rfl | exact Ent.pull_drop (is := [3]) rfl | exact Ent.pull_drop (is := [4]) rfl | exact Ent.pull_drop (is := [5]) rfl | exact Ent.pull_drop (is := [6]) rfl | exact Ent.pull_drop (is := [7]) rfl) ?_
   refine RD.n rfl (by first | exact (p_subN rfl rfl rfl (by omega)) | exact (p_sub rfl rfl rfl (by omega))) ?_
   refine RD.n rfl (p_gtr rfl rfl rfl) ?_
   refine RD.n rfl (p_pick_f rfl rfl (by conv => lhs; whnf)) ?_
   refine RD.nil ?_
   refine hK27 _ _ ?_
   refine T.known 118 rfl (show _ = Value.bool false from congrArg Value.bool (decide_eq_false (by omega))) ?_
   refine T.cond_f rfl ?_
   refine T.skip ?_
   refine hK26 _ _ ?_
   refine T.seq fun K28 hK28 => ?_
   refine T.region (l := [0, 1, 2, 3, 4, 5, 6, 7]) rfl ?_
   refine RN.m rfl ?_
   refine RN.m rfl ?_
   refine RN.m rfl ?_
   refine RN.p rfl (by first | exact (p_indexAddrN rfl Tryz.underlying45 ts_49 rfl rfl (by omega)) | exact (p_indexAddr rfl Tryz.underlying45 ts_49 rfl rfl (by omega))) ?_
   refine RN.p rfl (p_fieldAddr rfl fa_49_2 rfl) ?_
   refine RN.u rfl (by first | exact (q_load rfl sc_3 rfl (i := 0) rfl (flE_at2 hi)) | exact (q_load rfl sc_3 rfl (i := 1) rfl (flE_at2 hi)) | exact (q_load rfl sc_3 rfl (i := 2) rfl (flE_at2 hi)) | exact (q_load rfl sc_3 rfl (i := 3) rfl (flE_at2 hi)) | exact (q_load rfl sc_3 rfl (i := 4) rfl (flE_at2 hi)) | exact (q_load rfl sc_3 rfl (i := 5) rfl (flE_at2 hi)) | exact (q_load rfl sc_3 rfl (i := 6) rfl (flE_at2 hi))) ?_
   refine RN.p rfl (by first | exact (p_subN rfl rfl rfl (by omega)) | exact (p_sub rfl rfl rfl (by omega))) ?_
   refine RN.a rfl ?_
   refine RN.nil ?_
   refine hK28 _ _ ?_
   refine T.cut (G := Nat → Bool) (fun f2 => ∀ p, f2 p = true → cvE (volsE es) i p ∨ ((volsE es)[i].first ≤ p ∧ p < (volsE es)[i].first + (volsE es)[i].len)) (fun f2 => [(0, intV sz), (3, strV data), (9, ptr a 0), (11, ptr s 0), (13, slc bv 0 (volsE es).length capv), (14, slc b72 0 sz sz), (16, intV i), (15, .int .i64 ((sz : Int) - 8 - (sumL ((volsE es).take i) : Nat) - ((volsE es)[i].len : Nat)))]) (fun f2 => [row bv 49 (flE (volsE es) ++ restv), row b72 4 (usT f2 sz), row s 72 (stC 24 a sz es), arrA 63 57 5 a t, old w0, Fr]) ?_ ?_
   ·
    refine T.seq fun K30 hK30 => ?_
    refine T.region (l := [0]) rfl ?_
    refine RN.a rfl ?_
    refine RN.nil ?_
    refine hK30 _ _ ?_
    refine T.block ?_
    refine T.loop (G := Nat × (Nat → Bool)) (fun ⟨k, g⟩ => k ≤ (volsE es)[i].len ∧ ∀ p, g p = true → cvE (volsE es) i p ∨ ((volsE es)[i].first ≤ p ∧ p < (volsE es)[i].first + k)) (fun ⟨k, g⟩ => [(0, intV sz), (3, strV data), (9, ptr a 0), (11, ptr s 0), (13, slc bv 0 (volsE es).length capv), (14, slc b72 0 sz sz), (16, intV i), (15, .int .i64 ((sz : Int) - 8 - (sumL ((volsE es).take i) : Nat) - ((volsE es)[i].len : Nat))), (17, intV k)]) (fun ⟨k, g⟩ => [row bv 49 (flE (volsE es) ++ restv), row b72 4 (usT g sz), row s 72 (stC 24 a sz es), arrA 63 57 5 a t, old w0, Fr]) (fun ⟨k, g⟩ => (volsE es)[i].len - k) (0, f) ⟨Nat.zero_le _, fun p h => .inl (hfi p h)⟩ (LiveIs.cons rfl (LiveIs.cons rfl (LiveIs.cons rfl (LiveIs.cons rfl (LiveIs.cons rfl (LiveIs.cons rfl (LiveIs.cons rfl (LiveIs.cons rfl (LiveIs.cons rfl LiveIs.nil))))))))) (Ent.refl _) ?_
    rintro ⟨k, g⟩ e31 ⟨hkl0, hgi⟩
    dsimp only
    refine T.seq fun K32 hK32 => ?_
    refine T.seq fun K33 hK33 => ?_
    refine T.region (l := [0, 1, 2, 3, 4, 5, 6]) rfl ?_
    refine RN.m rfl ?_
    refine RN.m rfl ?_
    refine RN.m rfl ?_
    refine RN.p rfl (by first | exact (p_indexAddrN rfl Tryz.underlying45 ts_49 rfl rfl (by omega)) | exact (p_indexAddr rfl Tryz.underlying45 ts_49 rfl rfl (by omega))) ?_
    refine RN.p rfl (p_fieldAddr rfl fa_49_2 rfl) ?_
    refine RN.u rfl (by first | exact (q_load rfl sc_3 rfl (i := 0) rfl (flE_at2 hi)) | exact (q_load rfl sc_3 rfl (i := 1) rfl (flE_at2 hi)) | exact (q_load rfl sc_3 rfl (i := 2) rfl (flE_at2 hi)) | exact (q_load rfl sc_3 rfl (i := 3) rfl (flE_at2 hi)) | exact (q_load rfl sc_3 rfl (i := 4) rfl (flE_at2 hi)) | exact (q_load rfl sc_3 rfl (i := 5) rfl (flE_at2 hi)) | exact (q_load rfl sc_3 rfl (i := 6) rfl (flE_at2 hi))) ?_
    refine RN.p rfl (p_lss rfl rfl rfl) ?_
    refine RN.nil ?_
    refine hK33 _ _ ?_
    first | refine T.cond_dec rfl (fun h132 => ?_) (fun h132 => ?_) | refine T.cond rfl (fun h132 => ?_) (fun h132 => ?_)
    ·
     have hkl : k < (volsE es)[i].len := by omega
     have hin : (volsE es)[i].first + k < sz := by omega
     have hused : Value.bool (g ((volsE es)[i].first + k)) = Value.bool false := by
      cases hg : g ((volsE es)[i].first + k) with
      | false => rfl
      | true =>
       rcases hgi _ hg with ⟨j, hj, h1, h2, h3⟩ | ⟨h1, h2⟩
       · exact absurd (.inr ⟨by omega, by omega⟩) (vols_apart hv hj hi (by omega))
       · omega
     refine T.skip ?_
     refine hK32 _ _ ?_
     refine T.seq fun K34 hK34 => ?_
     refine T.block ?_
     refine T.seq fun K35 hK35 => ?_
     refine T.seq fun K36 hK36 => ?_
     refine T.region (l := [0, 1, 2, 3, 4, 5, 6, 7, 8, 9]) rfl ?_
     refine RN.m rfl ?_
     refine RN.m rfl ?_
     refine RN.m rfl ?_
     refine RN.p rfl (by first | exact (p_indexAddrN rfl Tryz.underlying45 ts_49 rfl rfl (by omega)) | exact (p_indexAddr rfl Tryz.underlying45 ts_49 rfl rfl (by omega))) ?_
     refine RN.p rfl (p_fieldAddr rfl fa_49_1 rfl) ?_
     refine RN.u rfl (by first | exact (q_load rfl sc_3 rfl (i := 0) rfl (flE_at1 hi)) | exact (q_load rfl sc_3 rfl (i := 1) rfl (flE_at1 hi)) | exact (q_load rfl sc_3 rfl (i := 2) rfl (flE_at1 hi)) | exact (q_load rfl sc_3 rfl (i := 3) rfl (flE_at1 hi)) | exact (q_load rfl sc_3 rfl (i := 4) rfl (flE_at1 hi)) | exact (q_load rfl sc_3 rfl (i := 5) rfl (flE_at1 hi)) | exact (q_load rfl sc_3 rfl (i := 6) rfl (flE_at1 hi))) ?_
     refine RN.m rfl ?_
     refine RN.p rfl (by first | exact (p_addN rfl rfl rfl (by omega)) | exact (p_add rfl rfl rfl (by omega))) ?_
     refine RN.p rfl (by first | exact (p_indexAddr1N rfl Tryz.underlying47 ts_4 rfl rfl (by omega)) | exact (p_indexAddr1 rfl Tryz.underlying47 ts_4 rfl rfl (by omega))) ?_
     refine RN.u rfl (by first | exact (q_load rfl sc_4 rfl (i := 0) rfl (usT_get hin)) | exact (q_load rfl sc_4 rfl (i := 1) rfl (usT_get hin)) | exact (q_load rfl sc_4 rfl (i := 2) rfl (usT_get hin)) | exact (q_load rfl sc_4 rfl (i := 3) rfl (usT_get hin)) | exact (q_load rfl sc_4 rfl (i := 4) rfl (usT_get hin)) | exact (q_load rfl sc_4 rfl (i := 5) rfl (usT_get hin)) | exact (q_load rfl sc_4 rfl (i := 6) rfl (usT_get hin))) ?_
     refine RN.nil ?_
     refine hK36 _ _ ?_
     refine T.known 144 rfl (show _ = Value.bool false from hused) ?_
     refine T.cond_f rfl ?_
     refine T.skip ?_
     refine hK35 _ _ ?_
     refine T.region (l := [0, 1, 2, 3, 4, 5, 6, 7, 8, 9]) rfl ?_
     refine RN.m rfl ?_
     refine RN.m rfl ?_
     refine RN.m rfl ?_
     refine RN.p rfl (by first | exact (p_indexAddrN rfl Tryz.underlying45 ts_49 rfl rfl (by omega)) | exact (p_indexAddr rfl Tryz.underlying45 ts_49 rfl rfl (by omega))) ?_
     refine RN.p rfl (p_fieldAddr rfl fa_49_1 rfl) ?_
     refine RN.u rfl (by first | exact (q_load rfl sc_3 rfl (i := 0) rfl (flE_at1 hi)) | exact (q_load rfl sc_3 rfl (i := 1) rfl (flE_at1 hi)) | exact (q_load rfl sc_3 rfl (i := 2) rfl (flE_at1 hi)) | exact (q_load rfl sc_3 rfl (i := 3) rfl (flE_at1 hi)) | exact (q_load rfl sc_3 rfl (i := 4) rfl (flE_at1 hi)) | exact (q_load rfl sc_3 rfl (i := 5) rfl (flE_at1 hi)) | exact (q_load rfl sc_3 rfl (i := 6) rfl (flE_at1 hi))) ?_
     refine RN.m rfl ?_
     refine RN.p rfl (by first | exact (p_addN rfl rfl rfl (by omega)) | exact (p_add rfl rfl rfl (by omega))) ?_
     refine RN.p rfl (by first | exact (p_indexAddr1N rfl Tryz.underlying47 ts_4 rfl rfl (by omega)) | exact (p_indexAddr1 rfl Tryz.underlying47 ts_4 rfl rfl (by omega))) ?_
     refine RN.EN rfl rfl rfl (by first | exact (e_store rfl ts_4 rfl (by conv => lhs; whnf) (by first | rfl | assumption) (i := 0) rfl (by rw [usT_length]; omega)) | exact (e_store rfl ts_4 rfl (by conv => lhs; whnf) (by first | rfl | assumption) (i := 1) rfl (by rw [usT_length]; omega)) | exact (e_store rfl ts_4 rfl (by conv => lhs; whnf) (by first | rfl | assumption) (i := 2) rfl (by rw [usT_length]; omega)) | exact (e_store rfl ts_4 rfl (by conv => lhs; whnf) (by first | rfl | assumption) (i := 3) rfl (by rw [usT_length]; omega)) | exact (e_store rfl ts_4 rfl (by conv => lhs; whnf) (by first | rfl | assumption) (i := 4) rfl (by rw [usT_length]; omega)) | exact (e_store rfl ts_4 rfl (by conv => lhs; whnf) (by first | rfl | assumption) (i := 5) rfl (by rw [usT_length]; omega)) | exact (e_store rfl ts_4 rfl (by conv => lhs; whnf) (by first | rfl | assumption) (i := 6) rfl (by rw [usT_length]; omega))) ?_
     rintro _ _ ⟨rfl, rfl⟩
     refine RN.nil ?_
     refine hK34 _ _ ?_
     refine T.region (l := [0, 1, 2]) rfl ?_
     refine RN.m rfl ?_
     refine RN.p rfl (by first | exact (p_addN (b := 1) rfl rfl rfl (by omega)) | exact (p_add rfl rfl rfl (by omega))) ?_
     refine RN.a rfl ?_
     refine RN.nil ?_
     refine ⟨(k + 1, fun p => decide (p = (volsE es)[i].first + k) || g p), ⟨by omega, fun p h => by
      rcases Bool.or_eq_true _ _ ▸ h with h | h
      ·
       have := of_decide_eq_true h
       exact .inr ⟨by omega, by omega⟩
      ·
       rcases hgi p h with g2 | g2
       · exact .inl g2
       · exact .inr ⟨g2.1, by omega⟩⟩, (by simp; omega), (LiveIs.cons rfl (LiveIs.cons rfl (LiveIs.cons rfl (LiveIs.cons rfl (LiveIs.cons rfl (LiveIs.cons rfl (LiveIs.cons rfl (LiveIs.cons rfl (LiveIs.cons rfl LiveIs.nil))))))))), (Ent.cons (Ent.refl _) (Ent.rowEq (usT_set _ _ _)))⟩
    ·
     refine T.exit ?_
     refine Post.seq_x ?_
     refine Post.seq_x ?_
     refine Post.block_hit ?_
     refine ⟨g, (fun p h => (hgi p h).imp id fun x => ⟨x.1, by have := x.2; omega⟩), (LiveIs.cons rfl (LiveIs.cons rfl (LiveIs.cons rfl (LiveIs.cons rfl (LiveIs.cons rfl (LiveIs.cons rfl (LiveIs.cons rfl (LiveIs.cons rfl LiveIs.nil)))))))), Ent.refl _⟩
   ·
    rintro f2 e29 hf2
    refine T.seq fun K37 hK37 => ?_
    refine T.region (l := [0]) rfl ?_
    refine RN.a rfl ?_
    refine RN.nil ?_
    refine hK37 _ _ ?_
    refine T.block ?_
    refine T.loop (G := Nat) (fun k => k ≤ i) (fun k => [(0, intV sz), (3, strV data), (9, ptr a 0), (11, ptr s 0), (13, slc bv 0 (volsE es).length capv), (14, slc b72 0 sz sz), (16, intV i), (15, .int .i64 ((sz : Int) - 8 - (sumL ((volsE es).take i) : Nat) - ((volsE es)[i].len : Nat))), (18, intV k)]) (fun k => [row bv 49 (flE (volsE es) ++ restv), row b72 4 (usT f2 sz), row s 72 (stC 24 a sz es), arrA 63 57 5 a t, old w0, Fr]) (fun k => i - k) 0 (Nat.zero_le _) (LiveIs.cons rfl (LiveIs.cons rfl (LiveIs.cons rfl (LiveIs.cons rfl (LiveIs.cons rfl (LiveIs.cons rfl (LiveIs.cons rfl (LiveIs.cons rfl (LiveIs.cons rfl LiveIs.nil))))))))) (Ent.refl _) ?_
    rintro k e38 hk0
    refine T.seq fun K39 hK39 => ?_
    refine T.seq fun K40 hK40 => ?_
    refine T.region (l := [0, 1, 2]) rfl ?_
    refine RN.m rfl ?_
    refine RN.m rfl ?_
    refine RN.p rfl (p_lss rfl rfl rfl) ?_
    refine RN.nil ?_
    refine hK40 _ _ ?_
    first | refine T.cond_dec rfl (fun h156 => ?_) (fun h156 => ?_) | refine T.cond rfl (fun h156 => ?_) (fun h156 => ?_)
    ·
     have hk : k < (volsE es).length := by omega
     refine T.skip ?_
     refine hK39 _ _ ?_
     refine T.seq fun K41 hK41 => ?_
     refine T.block ?_
     refine T.seq fun K42 hK42 => ?_
     refine T.regionD (z := 11) (Bs := [row bv 49 (flE (volsE es) ++ restv)]) (l := [(0, .pure), (1, .pure), (2, .pure), (3, .pure), (4, .load), (5, .pure), (6, .pure), (7, .pure), (8, .pure), (9, .load), (10, .pure)]) mixed (by kernel_rfl) (by first | exact Ent.refl _ | exact Ent.pull_drop (is := [0]) rfl | exact Ent.pull_drop (is := [1]) rfl | exact Ent.pull_drop (is := [2]) rfl | exact Ent.pull_drop (is := [3]) rfl | exact Ent.pull_drop (is := [4]) rfl | exact Ent.pull_drop (is := [5]) rfl | exact Ent.pull_drop (is := [6]) rfl | exact Ent.pull_drop (is := [7]) rfl) ?_
     refine RD.n rfl (p_move rfl (by conv => lhs; whnf)) ?_
     refine RD.n rfl (p_move rfl (by conv => lhs; whnf)) ?_
     refine RD.n rfl (by first | exact (p_indexAddrN rfl Tryz.underlying45 ts_49 rfl rfl (by omega)) | exact (p_indexAddr rfl Tryz.underlying45 ts_49 rfl rfl (by omega))) ?_
     refine RD.n rfl (p_fieldAddr rfl fa_49_0 rfl) ?_
     refine RD.qq rfl rfl rfl rfl (by first | exact (q_load rfl sc_9 rfl (i := 0) rfl (flE_at0 hk)) | exact (q_load rfl sc_9 rfl (i := 1) rfl (flE_at0 hk)) | exact (q_load rfl sc_9 rfl (i := 2) rfl (flE_at0 hk)) | exact (q_load rfl sc_9 rfl (i := 3) rfl (flE_at0 hk)) | exact (q_load rfl sc_9 rfl (i := 4) rfl (flE_at0 hk)) | exact (q_load rfl sc_9 rfl (i := 5) rfl (flE_at0 hk)) | exact (q_load rfl sc_9 rfl (i := 6) rfl (flE_at0 hk))) (by first | exact Ent.refl _ | exact Ent.pull_drop (is := [0]) rfl | exact Ent.pull_drop (is := [1]) rfl | exact Ent.pull_drop (is := [2]) rfl | exact Ent.pull_drop (is := [3]) rfl | exact Ent.pull_drop (is := [4]) rfl | exact Ent.pull_drop (is := [5]) rfl | exact Ent.pull_drop (is := [6]) rfl | exact Ent.pull_drop (is := [7]) rfl) ?_
     refine RD.n rfl (p_move rfl (by conv => lhs; whnf)) ?_
     refine RD.n rfl (p_move rfl (by conv => lhs; whnf)) ?_
     refine RD.n rfl (by first | exact (p_indexAddrN rfl Tryz.underlying45 ts_49 rfl rfl (by omega)) | exact (p_indexAddr rfl Tryz.underlying45 ts_49 rfl rfl (by omega))) ?_
     refine RD.n rfl (p_fieldAddr rfl fa_49_0 rfl) ?_
     refine RD.qq rfl rfl rfl rfl (by first | exact (q_load rfl sc_9 rfl (i := 0) rfl (flE_at0 hi)) | exact (q_load rfl sc_9 rfl (i := 1) rfl (flE_at0 hi)) | exact (q_load rfl sc_9 rfl (i := 2) rfl (flE_at0 hi)) | exact (q_load rfl sc_9 rfl (i := 3) rfl (flE_at0 hi)) | exact (q_load rfl sc_9 rfl (i := 4) rfl (flE_at0 hi)) | exact (q_load rfl sc_9 rfl (i := 5) rfl (flE_at0 hi)) | exact (q_load rfl sc_9 rfl (i := 6) rfl (flE_at0 hi))) (by first | exact Ent.refl _ | exact Ent.pull_drop (is := [0]) rfl | exact Ent.pull_drop (is := [1]) rfl | exact Ent.pull_drop (is := [2]) rfl | exact Ent.pull_drop (is := [3]) rfl | exact Ent.pull_drop (is := [4]) rfl | exact Ent.pull_drop (is := [5]) rfl | exact Ent.pull_drop (is := [6]) rfl | exact Ent.pull_drop (is := [7]) rfl) ?_
     refine RD.n rfl (p_seql rfl rfl rfl) ?_
     refine RD.nil ?_
     refine hK42 _ _ ?_
     refine T.known 169 rfl (show _ = Value.bool false from congrArg Value.bool (decide_eq_false (fun hm => vols_apart hv hk hi (by omega) (.inl hm)))) ?_
     refine T.cond_f rfl ?_
     refine T.skip ?_
     refine hK41 _ _ ?_
     refine T.region (l := [0, 1, 2]) rfl ?_
     refine RN.m rfl ?_
     refine RN.p rfl (by first | exact (p_addN (b := 1) rfl rfl rfl (by omega)) | exact (p_add rfl rfl rfl (by omega))) ?_
     refine RN.a rfl ?_
     refine RN.nil ?_
     refine ⟨k + 1, (by omega), (by omega), (LiveIs.cons rfl (LiveIs.cons rfl (LiveIs.cons rfl (LiveIs.cons rfl (LiveIs.cons rfl (LiveIs.cons rfl (LiveIs.cons rfl (LiveIs.cons rfl (LiveIs.cons rfl LiveIs.nil))))))))), Ent.refl _⟩
    ·
     refine T.exit ?_
     refine Post.seq_x ?_
     refine Post.seq_x ?_
     refine Post.block_hit ?_
     refine hK25 _ _ ?_
     refine T.region (l := [0, 1, 2]) rfl ?_
     refine RN.m rfl ?_
     refine RN.p rfl (by first | exact (p_addN (b := 1) rfl rfl rfl (by omega)) | exact (p_add rfl rfl rfl (by omega))) ?_
     refine RN.a rfl ?_
     refine RN.nil ?_
     refine ⟨(i + 1, f2), ⟨by omega, fun p h => by
      rcases hf2 p h with ⟨j, hj, g1, g2⟩ | g
      · exact ⟨j, hj, by omega, g2⟩
      · exact ⟨i, hi, by omega, g.1, by have := g.2; omega⟩⟩, (by simp; omega), (LiveIs.cons rfl (LiveIs.cons rfl (LiveIs.cons rfl (LiveIs.cons rfl (LiveIs.cons rfl (LiveIs.cons rfl (LiveIs.cons (congrArg (Value.int .i64) (by rw [hsl]; omega)) (LiveIs.cons rfl LiveIs.nil)))))))), (Ent.cons (vec_of_row (flE_length _) hw1 hw2 hw3) (Ent.refl _))⟩
  ·
   obtain rfl : i = (volsE es).length := by omega
   have e8 : (volsE es).take (volsE es).length = (volsE es) := List.take_of_length_le (Nat.le_refl _)
   refine T.exit ?_
   refine Post.seq_x ?_
   refine Post.seq_x ?_
   refine Post.block_hit ?_
   refine hK20 _ _ ?_
   refine T.seq fun K43 hK43 => ?_
   refine T.seq fun K44 hK44 => ?_
   refine T.region (l := [0, 1, 2, 3, 4, 5, 6, 7, 8]) rfl ?_
   refine RN.m rfl ?_
   refine RN.m rfl ?_
   refine RN.C [2] rfl rfl rfl rfl (c_call rfl rfl) (Free_spec s a sz es hv (by omega)) rfl ?_
   rintro _ _ ⟨rfl, rfl⟩
   refine RN.p rfl (p_neq rfl rfl rfl) ?_
   refine RN.m rfl ?_
   refine RN.known 174 rfl (show _ = Value.bool false from congrArg Value.bool (decide_eq_false (not_not_intro (by rw [e8, sumL_vols])))) ?_
   refine RN.m rfl ?_
   refine RN.u rfl (q_len_vec rfl Tryz.underlying45 rfl (i := 1) rfl) ?_
   refine RN.p rfl (p_lss rfl rfl rfl) ?_
   refine RN.pf rfl ?_
   refine RN.nil ?_
   refine hK44 _ _ ?_
   first | refine T.cond_dec rfl (fun h178 => ?_) (fun h178 => ?_) | refine T.cond rfl (fun h178 => ?_) (fun h178 => ?_)
   ·
    refine T.seq fun K45 hK45 => ?_
    refine T.region (l := [0, 1, 2, 3, 4]) rfl ?_
    refine RN.m rfl ?_
    refine RN.m rfl ?_
    refine RN.C [0] rfl rfl rfl rfl (c_call rfl rfl) (Free_spec s a sz es hv (by omega)) rfl ?_
    rintro _ _ ⟨rfl, rfl⟩
    refine RN.p rfl (p_eql rfl rfl rfl) ?_
    refine RN.a rfl ?_
    refine RN.nil ?_
    refine hK45 _ _ ?_
    refine T.ret ?_
    refine Post.seq_r ?_
    refine bodyQ_ret [old w0] (RetRun.tmp RetRun.nil) ⟨congrArg Value.bool (decide_eq_true (by rw [e8, sumL_vols])), rfl⟩ (Ent.pull_drop (is := [4, 4]) rfl)
   ·
    have h1n : 1 < (volsE es).length := by omega
    have h0n : 0 < (volsE es).length := by omega
    have hb0 := vols_bound hv h0n
    have hb1 := vols_bound hv h1n
    have ho0 := hb0.1
    have ho1 := hb1.1
    have hcap := cap_of ht
    have hp0 := ho0.2.2.2
    have hp1 := ho1.2.2.2
    have hRf : Right (t.length / 32 : Nat) ((volsE es)[0].first : Nat) ((volsE es)[0].len : Nat) := by rw [hcap]; unfold Right; omega
    have hRg : Right (t.length / 32 : Nat) ((volsE es)[1].first : Nat) ((volsE es)[1].len : Nat) := by rw [hcap]; unfold Right; omega
    have hap : (volsE es)[0].first + (volsE es)[0].len ≤ (volsE es)[1].first ∨ (volsE es)[1].first + (volsE es)[1].len ≤ (volsE es)[0].first := by
     by_cases g1 : (volsE es)[1].first < (volsE es)[0].first + (volsE es)[0].len
     ·
      by_cases g2 : (volsE es)[0].first < (volsE es)[1].first + (volsE es)[1].len
      · exact absurd (.inr ⟨g2, g1⟩) (vols_apart hv h0n h1n (by decide))
      · right; omega
     · left; omega
    refine T.skip ?_
    refine hK43 _ _ ?_
    refine T.seq fun K46 hK46 => ?_
    refine T.openVec 1 rfl (by omega) ?_
    rintro bv capv restv rfl hw1 hw2 hw3
    refine T.regionD (z := 9) (Bs := [row bv 49 (flE (volsE es) ++ restv)]) (l := [(0, .pure), (1, .pure), (2, .pure), (3, .pure), (4, .load), (5, .pure), (6, .pure), (7, .pure), (8, .load), (9, .eff), (10, .pure), (11, .pure), (12, .pure), (13, .pure), (14, .pure)]) mixed (by kernel_rfl) (by first | exact Ent.refl _ | exact Ent.pull_drop (is := [0]) rfl | exact Ent.pull_drop (is := [1]) rfl | exact Ent.pull_drop (is := [2]) rfl | exact Ent.pull_drop (is := [3]) rfl | exact Ent.pull_drop (is := [4]) rfl | exact Ent.pull_drop (is := [5]) rfl | exact Ent.pull_drop (is := [6]) rfl | exact Ent.pull_drop (is := [7]) rfl) ?_
    refine RD.n rfl (p_move rfl (by conv => lhs; whnf)) ?_
    refine RD.n rfl (p_move rfl (by conv => lhs; whnf)) ?_
    refine RD.n rfl (by first | exact (p_indexAddrN (i := 1) rfl Tryz.underlying45 ts_49 rfl rfl (by omega)) | exact (p_indexAddr rfl Tryz.underlying45 ts_49 rfl rfl (by omega))) ?_
    refine RD.n rfl (p_fieldAddr rfl fa_49_0 rfl) ?_
    refine RD.qq rfl rfl rfl rfl (by first | exact (q_load rfl sc_9 rfl (i := 0) rfl (flE_at0 h1n)) | exact (q_load rfl sc_9 rfl (i := 1) rfl (flE_at0 h1n)) | exact (q_load rfl sc_9 rfl (i := 2) rfl (flE_at0 h1n)) | exact (q_load rfl sc_9 rfl (i := 3) rfl (flE_at0 h1n)) | exact (q_load rfl sc_9 rfl (i := 4) rfl (flE_at0 h1n)) | exact (q_load rfl sc_9 rfl (i := 5) rfl (flE_at0 h1n)) | exact (q_load rfl sc_9 rfl (i := 6) rfl (flE_at0 h1n))) (by first | exact Ent.refl _ | exact Ent.pull_drop (is := [0]) rfl | exact Ent.pull_drop (is := [1]) rfl | exact Ent.pull_drop (is := [2]) rfl | exact Ent.pull_drop (is := [3]) rfl | exact Ent.pull_drop (is := [4]) rfl | exact Ent.pull_drop (is := [5]) rfl | exact Ent.pull_drop (is := [6]) rfl | exact Ent.pull_drop (is := [7]) rfl) ?_
    refine RD.n rfl (p_move rfl (by conv => lhs; whnf)) ?_
    refine RD.n rfl (by first | exact (p_indexAddrN (i := 1) rfl Tryz.underlying45 ts_49 rfl rfl (by omega)) | exact (p_indexAddr rfl Tryz.underlying45 ts_49 rfl rfl (by omega))) ?_
    refine RD.n rfl (p_fieldAddr rfl fa_49_2 rfl) ?_
    refine RD.qq rfl rfl rfl rfl (by first | exact (q_load rfl sc_3 rfl (i := 0) rfl (flE_at2 h1n)) | exact (q_load rfl sc_3 rfl (i := 1) rfl (flE_at2 h1n)) | exact (q_load rfl sc_3 rfl (i := 2) rfl (flE_at2 h1n)) | exact (q_load rfl sc_3 rfl (i := 3) rfl (flE_at2 h1n)) | exact (q_load rfl sc_3 rfl (i := 4) rfl (flE_at2 h1n)) | exact (q_load rfl sc_3 rfl (i := 5) rfl (flE_at2 h1n)) | exact (q_load rfl sc_3 rfl (i := 6) rfl (flE_at2 h1n))) (by first | exact Ent.refl _ | exact Ent.pull_drop (is := [0]) rfl | exact Ent.pull_drop (is := [1]) rfl | exact Ent.pull_drop (is := [2]) rfl | exact Ent.pull_drop (is := [3]) rfl | exact Ent.pull_drop (is := [4]) rfl | exact Ent.pull_drop (is := [5]) rfl | exact Ent.pull_drop (is := [6]) rfl | exact Ent.pull_drop (is := [7]) rfl) ?_
    refine RD.C [0, 2] rfl rfl rfl rfl (c_call rfl rfl) (VRead_spec s a sz es t (volsE es)[1].name 0 ((volsE es)[1].len : Nat) hv (by omega) ht) rfl (fun _ _ _ => .inr rfl) ?_
    rintro _ _ ⟨rfl, rfl⟩
    rw [rea_yes (by rw [vol_plc hv h1n]), vol_plc hv h1n]
    refine RD.n rfl (p_move rfl (by conv => lhs; whnf)) ?_
    refine RD.n rfl (p_extract rfl rfl rfl) ?_
    refine RD.n rfl (p_extract rfl rfl rfl) ?_
    refine RD.n rfl (p_assign rfl (by conv => lhs; whnf)) ?_
    refine RD.n rfl (p_assign rfl (by conv => lhs; whnf)) ?_
    refine RD.nil ?_
    refine hK46 _ _ ?_
    refine T.seq fun K47 hK47 => ?_
    refine T.regionD (z := 10) (Bs := [row bv 49 (flE (volsE es) ++ restv)]) (l := [(0, .pure), (1, .pure), (2, .pure), (3, .pure), (4, .load), (5, .pure), (6, .pure), (7, .pure), (8, .load), (9, .pure), (10, .eff), (11, .pure)]) mixed (by kernel_rfl) (by first | exact Ent.refl _ | exact Ent.pull_drop (is := [0]) rfl | exact Ent.pull_drop (is := [1]) rfl | exact Ent.pull_drop (is := [2]) rfl | exact Ent.pull_drop (is := [3]) rfl | exact Ent.pull_drop (is := [4]) rfl | exact Ent.pull_drop (is := [5]) rfl | exact Ent.pull_drop (is := [6]) rfl | exact Ent.pull_drop (is := [7]) rfl) ?_
    refine RD.n rfl (p_move rfl (by conv => lhs; whnf)) ?_
    refine RD.n rfl (p_move rfl (by conv => lhs; whnf)) ?_
    refine RD.n rfl (by first | exact (p_indexAddrN (i := 0) rfl Tryz.underlying45 ts_49 rfl rfl (by omega)) | exact (p_indexAddr rfl Tryz.underlying45 ts_49 rfl rfl (by omega))) ?_
    refine RD.n rfl (p_fieldAddr rfl fa_49_0 rfl) ?_
    refine RD.qq rfl rfl rfl rfl (by first | exact (q_load rfl sc_9 rfl (i := 0) rfl (flE_at0 h0n)) | exact (q_load rfl sc_9 rfl (i := 1) rfl (flE_at0 h0n)) | exact (q_load rfl sc_9 rfl (i := 2) rfl (flE_at0 h0n)) | exact (q_load rfl sc_9 rfl (i := 3) rfl (flE_at0 h0n)) | exact (q_load rfl sc_9 rfl (i := 4) rfl (flE_at0 h0n)) | exact (q_load rfl sc_9 rfl (i := 5) rfl (flE_at0 h0n)) | exact (q_load rfl sc_9 rfl (i := 6) rfl (flE_at0 h0n))) (by first | exact Ent.refl _ | exact Ent.pull_drop (is := [0]) rfl | exact Ent.pull_drop (is := [1]) rfl | exact Ent.pull_drop (is := [2]) rfl | exact Ent.pull_drop (is := [3]) rfl | exact Ent.pull_drop (is := [4]) rfl | exact Ent.pull_drop (is := [5]) rfl | exact Ent.pull_drop (is := [6]) rfl | exact Ent.pull_drop (is := [7]) rfl) ?_
    refine RD.n rfl (p_move rfl (by conv => lhs; whnf)) ?_
    refine RD.n rfl (by first | exact (p_indexAddrN (i := 0) rfl Tryz.underlying45 ts_49 rfl rfl (by omega)) | exact (p_indexAddr rfl Tryz.underlying45 ts_49 rfl rfl (by omega))) ?_
    refine RD.n rfl (p_fieldAddr rfl fa_49_2 rfl) ?_
    refine RD.qq rfl rfl rfl rfl (by first | exact (q_load rfl sc_3 rfl (i := 0) rfl (flE_at2 h0n)) | exact (q_load rfl sc_3 rfl (i := 1) rfl (flE_at2 h0n)) | exact (q_load rfl sc_3 rfl (i := 2) rfl (flE_at2 h0n)) | exact (q_load rfl sc_3 rfl (i := 3) rfl (flE_at2 h0n)) | exact (q_load rfl sc_3 rfl (i := 4) rfl (flE_at2 h0n)) | exact (q_load rfl sc_3 rfl (i := 5) rfl (flE_at2 h0n)) | exact (q_load rfl sc_3 rfl (i := 6) rfl (flE_at2 h0n))) (by first | exact Ent.refl _ | exact Ent.pull_drop (is := [0]) rfl | exact Ent.pull_drop (is := [1]) rfl | exact Ent.pull_drop (is := [2]) rfl | exact Ent.pull_drop (is := [3]) rfl | exact Ent.pull_drop (is := [4]) rfl | exact Ent.pull_drop (is := [5]) rfl | exact Ent.pull_drop (is := [6]) rfl | exact Ent.pull_drop (is := [7]) rfl) ?_
    refine RD.n rfl (p_move rfl (by conv => lhs; whnf)) ?_
    refine RD.C [0, 0] rfl rfl rfl rfl (c_call rfl rfl) (VWrite_spec s a sz es t (volsE es)[0].name 0 ((volsE es)[0].len : Nat) data hv (by omega) ht) rfl (fun _ _ _ => .inr rfl) ?_
    rintro _ _ ⟨rfl, rfl⟩
    rw [wri_yes (by rw [vol_plc hv h0n]), vol_plc hv h0n]
    refine RD.n rfl (p_assign rfl (by conv => lhs; whnf)) ?_
    refine RD.nil ?_
    refine hK47 _ _ ?_
    refine T.seq fun K48 hK48 => ?_
    refine T.regionD (z := 9) (Bs := [row bv 49 (flE (volsE es) ++ restv)]) (l := [(0, .pure), (1, .pure), (2, .pure), (3, .pure), (4, .load), (5, .pure), (6, .pure), (7, .pure), (8, .load), (9, .eff), (10, .pure), (11, .pure), (12, .pure), (13, .pure), (14, .pure)]) mixed (by kernel_rfl) (by first | exact Ent.refl _ | exact Ent.pull_drop (is := [0]) rfl | exact Ent.pull_drop (is := [1]) rfl | exact Ent.pull_drop (is := [2]) rfl | exact Ent.pull_drop (is := [3]) rfl | exact Ent.pull_drop (is := [4]) rfl | exact Ent.pull_drop (is := [5]) rfl | exact Ent.pull_drop (is := [6]) rfl | exact Ent.pull_drop (is := [7]) rfl) ?_
    refine RD.n rfl (p_move rfl (by conv => lhs; whnf)) ?_
    refine RD.n rfl (p_move rfl (by conv => lhs; whnf)) ?_
    refine RD.n rfl (by first | exact (p_indexAddrN (i := 1) rfl Tryz.underlying45 ts_49 rfl rfl (by omega)) | exact (p_indexAddr rfl Tryz.underlying45 ts_49 rfl rfl (by omega))) ?_
    refine RD.n rfl (p_fieldAddr rfl fa_49_0 rfl) ?_
    refine RD.qq rfl rfl rfl rfl (by first | exact (q_load rfl sc_9 rfl (i := 0) rfl (flE_at0 h1n)) | exact (q_load rfl sc_9 rfl (i := 1) rfl (flE_at0 h1n)) | exact (q_load rfl sc_9 rfl (i := 2) rfl (flE_at0 h1n)) | exact (q_load rfl sc_9 rfl (i := 3) rfl (flE_at0 h1n)) | exact (q_load rfl sc_9 rfl (i := 4) rfl (flE_at0 h1n)) | exact (q_load rfl sc_9 rfl (i := 5) rfl (flE_at0 h1n)) | exact (q_load rfl sc_9 rfl (i := 6) rfl (flE_at0 h1n))) (by first | exact Ent.refl _ | exact Ent.pull_drop (is := [0]) rfl | exact Ent.pull_drop (is := [1]) rfl | exact Ent.pull_drop (is := [2]) rfl | exact Ent.pull_drop (is := [3]) rfl | exact Ent.pull_drop (is := [4]) rfl | exact Ent.pull_drop (is := [5]) rfl | exact Ent.pull_drop (is := [6]) rfl | exact Ent.pull_drop (is := [7]) rfl) ?_
    refine RD.n rfl (p_move rfl (by conv => lhs; whnf)) ?_
    refine RD.n rfl (by first | exact (p_indexAddrN (i := 1) rfl Tryz.underlying45 ts_49 rfl rfl (by omega)) | exact (p_indexAddr rfl Tryz.underlying45 ts_49 rfl rfl (by omega))) ?_
    refine RD.n rfl (p_fieldAddr rfl fa_49_2 rfl) ?_
    refine RD.qq rfl rfl rfl rfl (by first | exact (q_load rfl sc_3 rfl (i := 0) rfl (flE_at2 h1n)) | exact (q_load rfl sc_3 rfl (i := 1) rfl (flE_at2 h1n)) | exact (q_load rfl sc_3 rfl (i := 2) rfl (flE_at2 h1n)) | exact (q_load rfl sc_3 rfl (i := 3) rfl (flE_at2 h1n)) | exact (q_load rfl sc_3 rfl (i := 4) rfl (flE_at2 h1n)) | exact (q_load rfl sc_3 rfl (i := 5) rfl (flE_at2 h1n)) | exact (q_load rfl sc_3 rfl (i := 6) rfl (flE_at2 h1n))) (by first | exact Ent.refl _ | exact Ent.pull_drop (is := [0]) rfl | exact Ent.pull_drop (is := [1]) rfl | exact Ent.pull_drop (is := [2]) rfl | exact Ent.pull_drop (is := [3]) rfl | exact Ent.pull_drop (is := [4]) rfl | exact Ent.pull_drop (is := [5]) rfl | exact Ent.pull_drop (is := [6]) rfl | exact Ent.pull_drop (is := [7]) rfl) ?_
    refine RD.C [0, 0] rfl rfl rfl rfl (c_call rfl rfl) (VRead_spec s a sz es (wrT t ((volsE es)[0].first : Nat) ((volsE es)[0].len : Nat) data) (volsE es)[1].name 0 ((volsE es)[1].len : Nat) hv (by omega) (by rw [wrT_length]; exact ht)) rfl (fun _ _ _ => .inr rfl) ?_
    rintro _ _ ⟨rfl, rfl⟩
    rw [rea_yes (by rw [vol_plc hv h1n]), vol_plc hv h1n]
    refine RD.n rfl (p_move rfl (by conv => lhs; whnf)) ?_
    refine RD.n rfl (p_extract rfl rfl rfl) ?_
    refine RD.n rfl (p_extract rfl rfl rfl) ?_
    refine RD.n rfl (p_assign rfl (by conv => lhs; whnf)) ?_
    refine RD.n rfl (p_assign rfl (by conv => lhs; whnf)) ?_
    refine RD.nil ?_
    refine hK48 _ _ ?_
    refine T.seq fun K49 hK49 => ?_
    refine T.region (l := [0, 1, 2, 3, 4, 5, 6, 7, 8, 9, 10, 11, 12, 13, 14, 15, 16, 17, 18, 19, 20, 21, 22, 23]) rfl ?_
    refine RN.m rfl ?_
    refine RN.p rfl (p_eql rfl rfl rfl) ?_
    refine RN.m rfl ?_
    refine RN.known 222 rfl (show _ = Value.bool true from rfl) ?_
    refine RN.m rfl ?_
    refine RN.p rfl (p_eql rfl rfl rfl) ?_
    refine RN.pt rfl ?_
    refine RN.m rfl ?_
    refine RN.known 226 rfl (show _ = Value.bool true from rfl) ?_
    refine RN.m rfl ?_
    refine RN.p rfl (p_eql rfl rfl rfl) ?_
    refine RN.pt rfl ?_
    refine RN.m rfl ?_
    refine RN.known 230 rfl (show _ = Value.bool true from rfl) ?_
    refine RN.m rfl ?_
    refine RN.m rfl ?_
    refine RN.p rfl (p_seql rfl rfl rfl) ?_
    refine RN.pt rfl ?_
    refine RN.m rfl ?_
    refine RN.known 235 rfl (show _ = Value.bool true from congrArg Value.bool (decide_eq_true ((rd_wr_apart hRf hRg hap).symm))) ?_
    refine RN.m rfl ?_
    refine RN.C [0] rfl rfl rfl rfl (c_call rfl rfl) (Volumes_spec s a sz es hv.len) rfl ?_
    rintro v237 _ ⟨hv237, rfl⟩
    refine RN.u rfl (q_len_vec rfl Tryz.underlying45 rfl (i := 0) rfl) ?_
    refine RN.m rfl ?_
    refine RN.p rfl (p_len rfl Tryz.underlying45 rfl) ?_
    refine RN.p rfl (p_eql rfl rfl rfl) ?_
    refine RN.pt rfl ?_
    refine RN.a rfl ?_
    refine RN.nil ?_
    refine hK49 _ _ ?_
    refine T.ret ?_
    refine bodyQ_ret [old w0] (RetRun.tmp RetRun.nil) ⟨congrArg Value.bool (decide_eq_true rfl), rfl⟩ (Ent.pull_drop (is := [5, 5]) rfl)

end Go.Proofs.YtbbgajjonodlfaaGreat
namespace Go.Proofs.YtbbgajjonodlfaaGreat
open Go Go.Sl Go.Mo Go.Proofs Go.ChangeShapes
theorem str_strV (s : ByteArray) : Value.string s = strV s.data.toList := by
  cases s with
  | mk d => show Value.string ⟨d⟩ = Value.string ⟨d.toList.toArray⟩; simp
theorem list6 {α : Type} {l : List α} (h : l.length = 6) : ∃ a b c d e f, l = [a, b, c, d, e, f] := by
  match l, h with
  | [a, b, c, d, e, f], _ => exact ⟨a, b, c, d, e, f, rfl⟩
theorem vact_of {H : Type} {enc : TypeId × Value → H} {W : World} {sp : Nat → Bool} {held : Bool} {m : Nat} {c : List Value} {x : DataW H × List MemPlace} (h : DataW.trod enc Tryz.prog W 0 sp held m 38 c = some x) :
    ∃ k : VAct, c = k.cells ∧ k.data.length ∈ x.1.weights Tryz.prog 38 := by
  obtain ⟨xs, n, _, hx, hl, hn, hf⟩ := DataW.trod_struct Tryz.underlying38 h
  have h3 : Tryz.prog.cellsOf 3 = 1 := by kernel_rfl
  have h9 : Tryz.prog.cellsOf 9 = 1 := by kernel_rfl
  have hl6 : c.length = 6 := hl.trans (by kernel_rfl)
  obtain ⟨c0, c1, c2, c3, c4, c5, rfl⟩ := list6 hl6
  obtain ⟨x0, x1, x2, x3, x4, x5, rfl⟩ := list6 (show xs.length = 6 from hn)
  have f0 : DataW.trod enc Tryz.prog W 0 sp held n 3 (([c0, c1, c2, c3, c4, c5].drop 0).take (Tryz.prog.cellsOf 3)) = some x0 := hf 0 _ rfl
  have f1 : DataW.trod enc Tryz.prog W 0 sp held n 3 (([c0, c1, c2, c3, c4, c5].drop 1).take (Tryz.prog.cellsOf 3)) = some x1 := hf 1 _ rfl
  have f2 : DataW.trod enc Tryz.prog W 0 sp held n 3 (([c0, c1, c2, c3, c4, c5].drop 2).take (Tryz.prog.cellsOf 3)) = some x2 := hf 2 _ rfl
  have f3 : DataW.trod enc Tryz.prog W 0 sp held n 3 (([c0, c1, c2, c3, c4, c5].drop 3).take (Tryz.prog.cellsOf 3)) = some x3 := hf 3 _ rfl
  have f4 : DataW.trod enc Tryz.prog W 0 sp held n 3 (([c0, c1, c2, c3, c4, c5].drop 4).take (Tryz.prog.cellsOf 3)) = some x4 := hf 4 _ rfl
  have f5 : DataW.trod enc Tryz.prog W 0 sp held n 9 (([c0, c1, c2, c3, c4, c5].drop 5).take (Tryz.prog.cellsOf 9)) = some x5 := hf 5 _ rfl
  rw [h3] at f0 f1 f2 f3 f4
  rw [h9] at f5
  obtain ⟨n0, e0, _, _⟩ := DataW.trod_int Tryz.underlying3 (x := x0) f0
  obtain ⟨n1, e1, _, _⟩ := DataW.trod_int Tryz.underlying3 (x := x1) f1
  obtain ⟨n2, e2, _, _⟩ := DataW.trod_int Tryz.underlying3 (x := x2) f2
  obtain ⟨n3, e3, _, _⟩ := DataW.trod_int Tryz.underlying3 (x := x3) f3
  obtain ⟨n4, e4, _, _⟩ := DataW.trod_int Tryz.underlying3 (x := x4) f4
  obtain ⟨s, e5, e5', _⟩ := DataW.trod_string Tryz.underlying9 (x := x5) f5
  simp at e0 e1 e2 e3 e4 e5
  subst e0 e1 e2 e3 e4 e5 e5' hx
  refine ⟨⟨n0, n1, n2, n3, n4, s.data.toList⟩, ?_, ?_⟩
  · simp only [VAct.cells, str_strV]
  · simp only [DataW.weights, Tryz.underlying38, List.map_cons, DataW.weightsEach, List.mem_append]
    simp [DataW.weights]
theorem vacts_of {H : Type} {enc : TypeId × Value → H} {W : World} {sp : Nat → Bool} {held : Bool} {v : Value} {d : DataW H} {p : List MemPlace} (hv : ∃ a n c, v = .slice a n c) (h : DataW.Trod enc Tryz.prog W 0 sp held 22 v d p) (hw : ∀ n ∈ d.weights Tryz.prog 22, n ≤ 140737488351232) :
    ∃ (q : Option Addr) (scap : Nat) (cs : List VAct), v = .slice q cs.length scap ∧ (0 < cs.length → ∃ b off, q = some ⟨b, off, none⟩ ∧ ∀ i (hi : i < cs.length), At W b (off + i * 6) cs[i].cells) ∧ (∀ c ∈ cs, c.data.length ≤ 140737488351232) := by
  obtain ⟨q, cap, l, rfl, _, hq, hl⟩ := open_cells Tryz.underlying22 (show Tryz.prog.cellsOf 38 = 6 by kernel_rfl) (by decide) hv h
  obtain ⟨cs, hlen, hr⟩ := pick_list (R := fun (c : List Value) (k : VAct) => c = k.cells ∧ k.data.length ≤ 140737488351232) (l := l) (fun c hc => by
    obtain ⟨m, x, hx, hwt⟩ := hl c hc
    obtain ⟨k, hk, hkd⟩ := vact_of hx
    exact ⟨k, hk, hw _ (hwt _ hkd)⟩)
  refine ⟨q, cap, cs, by rw [hlen], fun h0 => ?_, fun c hc => ?_⟩
  · obtain ⟨b, off, rfl, hat⟩ := hq (by omega)
    refine ⟨b, off, rfl, fun i hi => ?_⟩
    have := hat i (by omega)
    rwa [(hr i (by omega) hi).1] at this
  · obtain ⟨i, hi, rfl⟩ := List.getElem_of_mem hc
    exact (hr i (by omega) hi).2
end Go.Proofs.YtbbgajjonodlfaaGreat
namespace Go.Proofs.YtbbgajjonodlfaaGreat.volApart
open Go Go.ChangeShapes Go.WideShapes Go.ChangeAt Go.RowKit Go.Sl Go.Mo
theorem VolApart_spec (w0 : World) (size : Int) (first : List UInt8) (q : Option Addr) (scap : Nat) (cs : List VAct) (data : List UInt8) (hq : 0 < cs.length → ∃ b off, q = some ⟨b, off, none⟩ ∧ ∀ i (hi : i < cs.length), At w0 b (off + i * 6) cs[i].cells) :
    Ctr Tryz.prog 4 [.int .i64 size, strV first, .slice q cs.length scap, strV data] [old w0] (fun v Ps => v = .bool true ∧ Ps = [old w0]) := by
  by_cases h1 : size < 1 ∨ 512 < size
  · exact VolApart_bad w0 size first q scap cs data h1
  by_cases h2 : 25 < cs.length ∨ size < 9 ∨ 64 < size
  · exact VolApart_skip w0 size first q scap cs data (by omega) h2
  obtain ⟨sz, rfl⟩ := Int.eq_ofNat_of_zero_le (show 0 ≤ size by omega)
  exact VolApart_run w0 sz first q scap cs data (by omega) (by omega) hq
theorem own : ownKnob Tryz.prog.godebug = none := by kernel_rfl
theorem laidOut : laidOutB Tryz.prog = true := by kernel_rfl
set_option maxRecDepth 100000 in
theorem lifted (os : Os) (started : os.Started) (H : Type) (enc : TypeId × Value → H) :
    ReturnsInHanded {} Tryz.checked os 4 .any (Rows.volApartSpec.pre6 enc Tryz.prog Tryz.f4 Rows.volApartRow.domain false) (Rows.volApartSpec.post enc Tryz.prog Tryz.f4 false true false false) := by
  refine returnsInHanded_of_change_sized (C := Tryz.checked) own started (by kernel_rfl) Tryz.func4
    (ChangeSpec.witness6 (enc := enc) (C := Tryz.checked) false ⟨#[], #[.int .i64 0, .string ⟨#[]⟩, .slice none 0 0, .string ⟨#[]⟩], []⟩ 8 (by kernel_rfl) (by kernel_rfl) (by kernel_rfl) (by kernel_rfl)) ?_
  intro W base args ds gs before hval0 hW hcnd hsz _
  have hval : ∀ (j : Nat) t v, Tryz.f4.params[j]? = some t → args[j]? = some v → Value.okWide Tryz.prog W .any base t v := hval0
  have hW' := hW
  obtain ⟨p, q, hA0, hV, rfl, hfz, hnd⟩ := hW
  have hA : DataW.TrodAll enc Tryz.prog W 0 (fun _ => true) true Tryz.f4.params.toList args.toList ds p := hA0
  rw [Tryz.params4] at hA hval
  obtain ⟨v0, vs0, d0, ds0, p0, q0, hargs, rfl, rfl, h0, r0⟩ := trodAll_cons hA
  obtain ⟨v1, vs1, d1, ds1, p1, q1, rfl, rfl, rfl, h1, r1⟩ := trodAll_cons r0
  obtain ⟨v2, vs2, d2, ds2, p2, q2, rfl, rfl, rfl, h2, r2⟩ := trodAll_cons r1
  obtain ⟨v3, vs3, d3, ds3, p3, q3, rfl, rfl, rfl, h3, r3⟩ := trodAll_cons r2
  obtain ⟨rfl, rfl, rfl⟩ := trodAll_nil r3
  obtain rfl : args = #[v0, v1, v2, v3] := by cases args; simp_all
  obtain ⟨rfl, rfl⟩ := trodVars_none hV
  obtain ⟨a0, rfl, _, _, _⟩ := open_int Tryz.underlying3 (hval 0 3 v0 rfl rfl) h0
  obtain ⟨s1, rfl, _, _, _⟩ := Go.ChangeMaps.open_string Tryz.underlying9 (hval 1 9 v1 rfl rfl) h1
  obtain ⟨s3, rfl, _, _, _⟩ := Go.ChangeMaps.open_string Tryz.underlying9 (hval 3 9 v3 rfl rfl) h3
  obtain ⟨qq, scap, cs, rfl, hq, hd⟩ := vacts_of (okWide_slice Tryz.underlying22 (hval 2 22 v2 rfl rfl)) h2 (fun n hn => by
    have h5 := List.all_eq_true.1 hsz n (DataW.weights_mem_each (j := 2) (t := 22) (d := d2) (by rw [show Tryz.checked.prog = Tryz.prog from rfl, Tryz.params4]; rfl) rfl n hn)
    exact of_decide_eq_true h5)
  refine (Ctr.calls1 W (VolApart_spec W a0 s1.data.toList qq scap cs s3.data.toList hq)).mono fun e W' ⟨he, hb⟩ => ?_
  subst he
  exact ⟨_, rfl, post_law hW' laidOut (by kernel_rfl) rfl rfl Tryz.underlying4 rfl rfl rfl hb⟩
theorem proved : Rows.VolApartSaid :=
  OpenClaim.holds_of_wide 4 Tryz.f4 rfl rfl rfl rfl rfl rfl rfl ⟨rfl, rfl, rfl, rfl, rfl⟩ rfl rfl rfl rfl rfl (by kernel_rfl) Tryz.func4 (by kernel_rfl)
    (of_decide_eq_true (by kernel_rfl)) (by unfold Func.isWrapper; first | (rw [if_pos (by decide +kernel)]; kernel_rfl) | (rw [if_neg (by decide +kernel)]; exact ⟨rfl, rfl⟩))
    (fun os started H enc _ => lifted os started H enc)
#print axioms proved
end Go.Proofs.YtbbgajjonodlfaaGreat.volApart
