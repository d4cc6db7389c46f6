/-
 Walk of DiskPlays.
-/
import Derived.Test.YtlbebaipmgjdbaaGreatGYsK1
set_option linter.unusedVariables false
set_option linter.unusedSimpArgs false
namespace Go.Proofs.YtlbebaipmgjdbaaGreat
open Go Go.Sl Go.Proofs
set_option maxRecDepth 20000
open Go.Mo Go.Evl
theorem DiskPlays_run (w0 : World) (sz : Nat) (q : Option Addr) (scap : Nat) (cs : List Dct) (hs : 1 ≤ sz ∧ sz ≤ 64) (hl : cs.length ≤ 25) (hq : 0 < cs.length → ∃ b off, q = some ⟨b, off, none⟩ ∧ ∀ i (hi : i < cs.length), At w0 b (off + i * 5) cs[i].cells) (hd : ∀ c ∈ cs, c.data.length ≤ 140737488351232) : Ctr Tryz.prog 3 [intV sz, .slice q cs.length scap] [old w0] (fun v Ps => v = .bool true ∧ Ps = [old w0]) := by
 refine Ctr.of_body Tryz.func3 rfl (by kernel_rfl) Tryz.ntmps3 rfl rfl (fun Fr => ?_)
 refine T.seq fun K1 hK1 => ?_
 refine T.region (l := [0]) rfl ?_
 refine RN.a rfl ?_
 refine RN.nil ?_
 refine hK1 _ _ ?_
 refine T.seq fun K2 hK2 => ?_
 refine T.seq fun K3 hK3 => ?_
 refine T.region (l := [0, 1]) rfl ?_
 refine RN.C [] rfl rfl rfl rfl (c_call rfl rfl) (awake24) rfl ?_
 rintro _ _ ⟨rfl, rfl⟩
 refine RN.p rfl (by first | exact (p_not_dec rfl rfl) | exact (p_not rfl rfl)) ?_
 refine RN.nil ?_
 refine hK3 _ _ ?_
 refine T.known 24 rfl (show _ = Value.bool false from rfl) ?_
 refine T.cond_f rfl ?_
 refine T.skip ?_
 refine hK2 _ _ ?_
 refine T.seq fun K4 hK4 => ?_
 refine T.region (l := [0, 1, 2, 3, 4, 5, 6]) rfl ?_
 refine RN.m rfl ?_
 refine RN.C [] rfl rfl rfl rfl (c_call rfl rfl) (New_A (sz : Int)) rfl ?_
 rintro v27 Ps27 hq27
 obtain ⟨a, rfl, rfl⟩ := NewA_yes hq27 (by omega)
 rw [Int.toNat_natCast]
 refine RN.m rfl ?_
 refine RN.p rfl (p_extract rfl rfl rfl) ?_
 refine RN.p rfl (p_extract rfl rfl rfl) ?_
 refine RN.a rfl ?_
 refine RN.a rfl ?_
 refine RN.nil ?_
 refine hK4 _ _ ?_
 refine T.seq fun K5 hK5 => ?_
 refine T.seq fun K6 hK6 => ?_
 refine T.region (l := [0, 1, 2, 3, 4, 5, 6, 7, 8, 9, 10]) rfl ?_
 refine RN.m rfl ?_
 refine RN.p rfl (p_neq rfl rfl rfl) ?_
 refine RN.m rfl ?_
 refine RN.known 32 rfl (show _ = Value.bool false from rfl) ?_
 refine RN.m rfl ?_
 refine RN.p rfl (p_gtr rfl rfl rfl) ?_
 refine RN.pf rfl ?_
 refine RN.m rfl ?_
 refine RN.known 36 rfl (show _ = Value.bool false from congrArg Value.bool (decide_eq_false (by omega))) ?_
 refine RN.m rfl ?_
 refine RN.p rfl (p_len rfl Tryz.underlying22 rfl) ?_
 refine RN.p rfl (p_gtr rfl rfl rfl) ?_
 refine RN.pf rfl ?_
 refine RN.nil ?_
 refine hK6 _ _ ?_
 refine T.known 40 rfl (show _ = Value.bool false from congrArg Value.bool (decide_eq_false (by omega))) ?_
 refine T.cond_f rfl ?_
 refine T.skip ?_
 refine hK5 _ _ ?_
 refine T.seq fun K7 hK7 => ?_
 refine T.region (l := [0, 1, 2]) rfl ?_
 refine RN.m rfl ?_
 refine RN.C [0] rfl rfl rfl rfl (c_call rfl rfl) (Copy_A a (List.replicate (sz * 32) 0)) rfl ?_
 rintro v42 _ ⟨b, rfl, rfl⟩
 refine RN.a rfl ?_
 refine RN.nil ?_
 refine hK7 _ _ ?_
 refine T.seq fun K8 hK8 => ?_
 refine T.region (l := [0, 1, 2]) rfl ?_
 refine RN.m rfl ?_
 refine RN.C [] rfl rfl rfl rfl (c_call rfl rfl) (RNew_spec sz (by omega)) rfl ?_
 rintro _ _ ⟨rfl, rfl⟩
 refine RN.a rfl ?_
 refine RN.nil ?_
 refine hK8 _ _ ?_
 refine T.seq fun K9 hK9 => ?_
 refine T.region (l := [0, 1]) rfl ?_
 refine RN.m rfl ?_
 refine RN.a rfl ?_
 refine RN.nil ?_
 refine hK9 _ _ ?_
 refine T.seq fun K10 hK10 => ?_
 refine T.seq fun K11 hK11 => ?_
 refine T.region (l := [0]) rfl ?_
 refine RN.a rfl ?_
 refine RN.nil ?_
 refine hK11 _ _ ?_
 refine T.block ?_
 refine T.loop (G := Nat × List UInt8) (fun ⟨i, s⟩ => i ≤ cs.length ∧ s.length = sz * 32) (fun ⟨i, s⟩ => [(0, intV sz), (1, .slice q cs.length scap), (5, ptr a 0), (7, ptr b 0), (8, strV s), (9, strV (List.replicate (sz * 32) 0)), (10, intV i)]) (fun ⟨i, s⟩ => [arrA 59 60 5 a s, arrA 59 60 5 b (List.replicate (sz * 32) 0), old w0, Fr]) (fun ⟨i, s⟩ => cs.length - i) (0, List.replicate (sz * 32) 0) ⟨by omega, by simp⟩ (LiveIs.cons rfl (LiveIs.cons rfl (LiveIs.cons rfl (LiveIs.cons rfl (LiveIs.cons rfl (LiveIs.cons rfl (LiveIs.cons rfl LiveIs.nil))))))) (Ent.pull_drop (is := [1, 0, 0, 0]) rfl) ?_
 rintro ⟨i, s⟩ e12 ⟨hik, hsl⟩
 dsimp only
 have hcap : s.length / 32 = sz := by rw [hsl]; exact Nat.mul_div_cancel sz (by decide)
 refine T.seq fun K13 hK13 => ?_
 refine T.seq fun K14 hK14 => ?_
 refine T.region (l := [0, 1, 2, 3]) rfl ?_
 refine RN.m rfl ?_
 refine RN.m rfl ?_
 refine RN.p rfl (p_len rfl Tryz.underlying22 rfl) ?_
 refine RN.p rfl (p_lss rfl rfl rfl) ?_
 refine RN.nil ?_
 refine hK14 _ _ ?_
 first | refine T.cond_dec rfl (fun h49 => ?_) (fun h49 => ?_) | refine T.cond rfl (fun h49 => ?_) (fun h49 => ?_)
 ·
  have hi : i < cs.length := by omega
  obtain ⟨sb, so, rfl, hat⟩ := hq (by omega)
  have hdl := hd _ (List.getElem_mem hi)
  refine T.skip ?_
  refine hK13 _ _ ?_
  refine T.seq fun K15 hK15 => ?_
  refine T.block ?_
  refine T.seq fun K16 hK16 => ?_
  refine T.region (l := [0, 1, 2, 3, 4, 5]) rfl ?_
  refine RN.m rfl ?_
  refine RN.m rfl ?_
  refine RN.p rfl (by first | exact (p_indexAddrN rfl Tryz.underlying22 ts_31 rfl rfl (by omega)) | exact (p_indexAddr rfl Tryz.underlying22 ts_31 rfl rfl (by omega))) ?_
  refine RN.u rfl (QRun.ent ((Ent.pull_drop (is := [2]) rfl).trans (Ent.cons (old_cellsAt (hat i hi)) (Ent.refl _))) (q_loadC rfl ag_31 ts_31 rfl (i := 0) rfl rfl)) ?_
  refine RN.E rfl rfl rfl rfl (e_alloc rfl ti_31) ?_
  rintro _ _ ⟨b11, rfl, rfl⟩
  refine RN.EN rfl rfl rfl (by first | exact (e_storeA rfl ts_31 rfl rfl rfl (by simp [Dct.cells, strV, Value.oneCell']) (i := 0) rfl (by simp)) | exact (e_storeA rfl ts_31 rfl rfl rfl (by simp [Dct.cells, strV, Value.oneCell']) (i := 1) rfl (by simp)) | exact (e_storeA rfl ts_31 rfl rfl rfl (by simp [Dct.cells, strV, Value.oneCell']) (i := 2) rfl (by simp)) | exact (e_storeA rfl ts_31 rfl rfl rfl (by simp [Dct.cells, strV, Value.oneCell']) (i := 3) rfl (by simp)) | exact (e_storeA rfl ts_31 rfl rfl rfl (by simp [Dct.cells, strV, Value.oneCell']) (i := 4) rfl (by simp))) ?_
  rintro _ _ ⟨rfl, rfl⟩
  refine RN.nil ?_
  refine hK16 _ _ ?_
  refine T.seq fun K17 hK17 => ?_
  refine T.region (l := [0, 1, 2]) rfl ?_
  refine RN.m rfl ?_
  refine RN.a rfl ?_
  refine RN.a rfl ?_
  refine RN.nil ?_
  refine hK17 _ _ ?_
  refine T.seq fun K18 hK18 => ?_
  refine T.region (l := [0]) rfl ?_
  refine RN.a rfl ?_
  refine RN.nil ?_
  refine hK18 _ _ ?_
  refine T.cut (G := List UInt8 × Bool) (fun ⟨tn, ok⟩ => tn.length = sz * 32) (fun ⟨tn, ok⟩ => [(0, intV sz), (1, .slice (some ⟨sb, so, none⟩) cs.length scap), (5, ptr a 0), (7, ptr b 0), (8, strV s), (9, strV (List.replicate (sz * 32) 0)), (10, intV i), (12, strV tn), (13, .bool ok), (14, .int .i64 (cond ok 0 1))]) (fun ⟨tn, ok⟩ => [row b11 31 cs[i].cells, arrA 59 60 5 a (cond ok tn s), arrA 59 60 5 b (List.replicate (sz * 32) 0), old w0, Fr]) ?_ ?_
  ·
   refine T.seq fun K20 hK20 => ?_
   refine T.region (l := [0, 1]) rfl ?_
   refine RN.p rfl (p_fieldAddr rfl fa_31_0 rfl) ?_
   refine RN.u rfl (by first | exact (q_load rfl sc_3 rfl (i := 0) rfl rfl) | exact (q_load rfl sc_3 rfl (i := 1) rfl rfl) | exact (q_load rfl sc_3 rfl (i := 2) rfl rfl) | exact (q_load rfl sc_3 rfl (i := 3) rfl rfl) | exact (q_load rfl sc_3 rfl (i := 4) rfl rfl)) ?_
   refine RN.nil ?_
   refine hK20 _ _ ?_
   refine T.block ?_
   refine T.seq fun K21 hK21 => ?_
   refine T.region (l := [0, 1]) rfl ?_
   refine RN.p rfl (p_eql rfl rfl rfl) ?_
   refine RN.a rfl ?_
   refine RN.nil ?_
   refine hK21 _ _ ?_
   first | refine T.cond_dec rfl (fun h74 => ?_) (fun h74 => ?_) | refine T.cond rfl (fun h74 => ?_) (fun h74 => ?_)
   ·
    refine T.seq fun K22 hK22 => ?_
    refine T.region (l := [0, 1, 2, 3, 4, 5, 6, 7, 8, 9, 10, 11]) rfl ?_
    refine RN.p rfl (p_fieldAddr rfl fa_31_4 rfl) ?_
    refine RN.u rfl (by first | exact (q_load rfl sc_9 rfl (i := 0) rfl rfl) | exact (q_load rfl sc_9 rfl (i := 1) rfl rfl) | exact (q_load rfl sc_9 rfl (i := 2) rfl rfl) | exact (q_load rfl sc_9 rfl (i := 3) rfl rfl) | exact (q_load rfl sc_9 rfl (i := 4) rfl rfl)) ?_
    refine RN.p rfl (p_sneq rfl rfl rfl) ?_
    refine RN.m rfl ?_
    first | refine RN.split_dec 79 rfl (fun h79 => ?_) (fun h79 => ?_) | refine RN.split 79 rfl (fun h79 => ?_) (fun h79 => ?_)
    ·
     have hd0 : ¬ cs[i].data = [] := h79
     refine RN.m rfl ?_
     refine RN.p rfl (p_fieldAddr rfl fa_31_1 rfl) ?_
     refine RN.u rfl (by first | exact (q_load rfl sc_3 rfl (i := 0) rfl rfl) | exact (q_load rfl sc_3 rfl (i := 1) rfl rfl) | exact (q_load rfl sc_3 rfl (i := 2) rfl rfl) | exact (q_load rfl sc_3 rfl (i := 3) rfl rfl) | exact (q_load rfl sc_3 rfl (i := 4) rfl rfl)) ?_
     refine RN.p rfl (p_fieldAddr rfl fa_31_2 rfl) ?_
     refine RN.u rfl (by first | exact (q_load rfl sc_3 rfl (i := 0) rfl rfl) | exact (q_load rfl sc_3 rfl (i := 1) rfl rfl) | exact (q_load rfl sc_3 rfl (i := 2) rfl rfl) | exact (q_load rfl sc_3 rfl (i := 3) rfl rfl) | exact (q_load rfl sc_3 rfl (i := 4) rfl rfl)) ?_
     refine RN.C [] rfl rfl rfl rfl (c_call rfl rfl) (Right9_spec (sz : Nat) cs[i].lba cs[i].n (by omega)) rfl ?_
     rintro _ _ ⟨rfl, rfl⟩
     refine RN.pt rfl ?_
     refine RN.a rfl ?_
     refine RN.nil ?_
     refine hK22 _ _ ?_
     refine T.seq fun K23 hK23 => ?_
     refine T.seq fun K24 hK24 => ?_
     refine T.region (l := [0]) rfl ?_
     refine RN.m rfl ?_
     refine RN.nil ?_
     refine hK24 _ _ ?_
     first | refine T.cond_dec rfl (fun h87 => ?_) (fun h87 => ?_) | refine T.cond rfl (fun h87 => ?_) (fun h87 => ?_)
     ·
      have hR : Right (s.length / 32 : Nat) cs[i].lba cs[i].n := by rw [hcap]; exact h87
      have hR2 := h87
      unfold Right at hR2
      refine T.regionD (z := 17) (Bs := [row b11 31 cs[i].cells]) (l := [(0, .pure), (1, .pure), (2, .load), (3, .pure), (4, .load), (5, .pure), (6, .load), (7, .pure), (8, .load), (9, .pure), (10, .eff), (11, .eff), (12, .pure), (13, .pure), (14, .pure), (15, .pure), (16, .pure)]) mixed (by kernel_rfl) (by first | exact Ent.refl _ | exact Ent.pull_drop (is := [0]) rfl | exact Ent.pull_drop (is := [1]) rfl | exact Ent.pull_drop (is := [2]) rfl | exact Ent.pull_drop (is := [3]) rfl | exact Ent.pull_drop (is := [4]) rfl | exact Ent.pull_drop (is := [5]) rfl | exact Ent.pull_drop (is := [6]) rfl | exact Ent.pull_drop (is := [7]) rfl) ?_
      refine RD.n rfl (p_move rfl (by conv => lhs; whnf)) ?_
      refine RD.n rfl (p_fieldAddr rfl fa_31_1 rfl) ?_
      refine RD.qq rfl rfl rfl rfl (by first | exact (q_load rfl sc_3 rfl (i := 0) rfl rfl) | exact (q_load rfl sc_3 rfl (i := 1) rfl rfl) | exact (q_load rfl sc_3 rfl (i := 2) rfl rfl) | exact (q_load rfl sc_3 rfl (i := 3) rfl rfl) | exact (q_load rfl sc_3 rfl (i := 4) rfl rfl)) (by first | exact Ent.refl _ | exact Ent.pull_drop (is := [0]) rfl | exact Ent.pull_drop (is := [1]) rfl | exact Ent.pull_drop (is := [2]) rfl | exact Ent.pull_drop (is := [3]) rfl | exact Ent.pull_drop (is := [4]) rfl | exact Ent.pull_drop (is := [5]) rfl | exact Ent.pull_drop (is := [6]) rfl | exact Ent.pull_drop (is := [7]) rfl) ?_
      refine RD.n rfl (p_fieldAddr rfl fa_31_2 rfl) ?_
      refine RD.qq rfl rfl rfl rfl (by first | exact (q_load rfl sc_3 rfl (i := 0) rfl rfl) | exact (q_load rfl sc_3 rfl (i := 1) rfl rfl) | exact (q_load rfl sc_3 rfl (i := 2) rfl rfl) | exact (q_load rfl sc_3 rfl (i := 3) rfl rfl) | exact (q_load rfl sc_3 rfl (i := 4) rfl rfl)) (by first | exact Ent.refl _ | exact Ent.pull_drop (is := [0]) rfl | exact Ent.pull_drop (is := [1]) rfl | exact Ent.pull_drop (is := [2]) rfl | exact Ent.pull_drop (is := [3]) rfl | exact Ent.pull_drop (is := [4]) rfl | exact Ent.pull_drop (is := [5]) rfl | exact Ent.pull_drop (is := [6]) rfl | exact Ent.pull_drop (is := [7]) rfl) ?_
      refine RD.n rfl (p_fieldAddr rfl fa_31_4 rfl) ?_
      refine RD.qq rfl rfl rfl rfl (by first | exact (q_load rfl sc_9 rfl (i := 0) rfl rfl) | exact (q_load rfl sc_9 rfl (i := 1) rfl rfl) | exact (q_load rfl sc_9 rfl (i := 2) rfl rfl) | exact (q_load rfl sc_9 rfl (i := 3) rfl rfl) | exact (q_load rfl sc_9 rfl (i := 4) rfl rfl)) (by first | exact Ent.refl _ | exact Ent.pull_drop (is := [0]) rfl | exact Ent.pull_drop (is := [1]) rfl | exact Ent.pull_drop (is := [2]) rfl | exact Ent.pull_drop (is := [3]) rfl | exact Ent.pull_drop (is := [4]) rfl | exact Ent.pull_drop (is := [5]) rfl | exact Ent.pull_drop (is := [6]) rfl | exact Ent.pull_drop (is := [7]) rfl) ?_
      refine RD.n rfl (p_fieldAddr rfl fa_31_2 rfl) ?_
      refine RD.qq rfl rfl rfl rfl (by first | exact (q_load rfl sc_3 rfl (i := 0) rfl rfl) | exact (q_load rfl sc_3 rfl (i := 1) rfl rfl) | exact (q_load rfl sc_3 rfl (i := 2) rfl rfl) | exact (q_load rfl sc_3 rfl (i := 3) rfl rfl) | exact (q_load rfl sc_3 rfl (i := 4) rfl rfl)) (by first | exact Ent.refl _ | exact Ent.pull_drop (is := [0]) rfl | exact Ent.pull_drop (is := [1]) rfl | exact Ent.pull_drop (is := [2]) rfl | exact Ent.pull_drop (is := [3]) rfl | exact Ent.pull_drop (is := [4]) rfl | exact Ent.pull_drop (is := [5]) rfl | exact Ent.pull_drop (is := [6]) rfl | exact Ent.pull_drop (is := [7]) rfl) ?_
      refine RD.n rfl (by first | exact (p_mulN (b := 32) rfl rfl rfl (by omega)) | exact (p_mul rfl rfl rfl (by omega))) ?_
      refine RD.known 98 rfl (show _ = intV (cs[i].n.toNat * 32) from congrArg (Value.int .i64) (by omega)) ?_
      refine RD.C [] rfl rfl rfl rfl (c_call rfl rfl) (filled_spec cs[i].data (cs[i].n.toNat * 32) (List.length_pos_iff.2 hd0) hdl (by omega)) rfl (by rintro _ _ ⟨rfl, rfl⟩; exact .inl (by first | exact Ent.refl _ | exact Ent.pull_drop (is := [0]) rfl | exact Ent.pull_drop (is := [1]) rfl | exact Ent.pull_drop (is := [2]) rfl | exact Ent.pull_drop (is := [3]) rfl | exact Ent.pull_drop (is := [4]) rfl | exact Ent.pull_drop (is := [5]) rfl | exact Ent.pull_drop (is := [6]) rfl | exact Ent.pull_drop (is := [7]) rfl)) ?_
      rintro _ _ ⟨rfl, rfl⟩
      refine RD.C [] rfl rfl rfl rfl (c_call rfl rfl) (RWrite_A s cs[i].lba cs[i].n (cyc cs[i].data (cs[i].n.toNat * 32)) (by omega) (by rw [cyc_length]; omega)) rfl (by rintro _ _ ⟨rfl, rfl⟩; exact .inl (by first | exact Ent.refl _ | exact Ent.pull_drop (is := [0]) rfl | exact Ent.pull_drop (is := [1]) rfl | exact Ent.pull_drop (is := [2]) rfl | exact Ent.pull_drop (is := [3]) rfl | exact Ent.pull_drop (is := [4]) rfl | exact Ent.pull_drop (is := [5]) rfl | exact Ent.pull_drop (is := [6]) rfl | exact Ent.pull_drop (is := [7]) rfl)) ?_
      rintro _ _ ⟨rfl, rfl⟩
      refine RD.n rfl (p_move rfl (by conv => lhs; whnf)) ?_
      refine RD.n rfl (p_extract rfl rfl rfl) ?_
      refine RD.n rfl (p_extract rfl rfl rfl) ?_
      refine RD.n rfl (p_assign rfl (by conv => lhs; whnf)) ?_
      refine RD.n rfl (p_assign rfl (by conv => lhs; whnf)) ?_
      refine RD.nil ?_
      refine hK23 _ _ ?_
      refine T.region (l := [0, 1, 2, 3, 4, 5, 6, 7, 8, 9]) rfl ?_
      refine RN.m rfl ?_
      refine RN.p rfl (p_makeIfaceP rfl Tryz.underlying24 rfl) ?_
      refine RN.p rfl (p_fieldAddr rfl fa_31_1 rfl) ?_
      refine RN.u rfl (by first | exact (q_load rfl sc_3 rfl (i := 0) rfl rfl) | exact (q_load rfl sc_3 rfl (i := 1) rfl rfl) | exact (q_load rfl sc_3 rfl (i := 2) rfl rfl) | exact (q_load rfl sc_3 rfl (i := 3) rfl rfl) | exact (q_load rfl sc_3 rfl (i := 4) rfl rfl)) ?_
      refine RN.p rfl (p_fieldAddr rfl fa_31_2 rfl) ?_
      refine RN.u rfl (by first | exact (q_load rfl sc_3 rfl (i := 0) rfl rfl) | exact (q_load rfl sc_3 rfl (i := 1) rfl rfl) | exact (q_load rfl sc_3 rfl (i := 2) rfl rfl) | exact (q_load rfl sc_3 rfl (i := 3) rfl rfl) | exact (q_load rfl sc_3 rfl (i := 4) rfl rfl)) ?_
      refine RN.p rfl (p_fieldAddr rfl fa_31_4 rfl) ?_
      refine RN.u rfl (by first | exact (q_load rfl sc_9 rfl (i := 0) rfl rfl) | exact (q_load rfl sc_9 rfl (i := 1) rfl rfl) | exact (q_load rfl sc_9 rfl (i := 2) rfl rfl) | exact (q_load rfl sc_9 rfl (i := 3) rfl rfl) | exact (q_load rfl sc_9 rfl (i := 4) rfl rfl)) ?_
      refine RN.C [1] rfl rfl rfl rfl (c_call rfl rfl) (Fill_A a s cs[i].lba cs[i].n cs[i].data (by omega) hdl) rfl ?_
      rintro _ _ ⟨rfl, rfl⟩
      refine RN.a rfl ?_
      refine RN.nil ?_
      refine ⟨(wrT s cs[i].lba cs[i].n (cyc cs[i].data (cs[i].n.toNat * 32)), true), ((wrT_length _ _ _ _).trans hsl), (LiveIs.cons rfl (LiveIs.cons rfl (LiveIs.cons rfl (LiveIs.cons rfl (LiveIs.cons rfl (LiveIs.cons rfl (LiveIs.cons rfl (LiveIs.cons rfl (LiveIs.cons (congrArg Value.bool (decide_eq_true hR)) (LiveIs.cons (congrArg (Value.int .i64) (by rw [if_neg hd0, erT_yes hR]; rfl)) LiveIs.nil)))))))))), (by rw [if_neg hd0]; exact Ent.pull_drop (is := [1, 0, 0, 0, 0]) rfl)⟩
     ·
      have hR : ¬ Right (s.length / 32 : Nat) cs[i].lba cs[i].n := by rw [hcap]; exact h87
      refine T.skip ?_
      refine hK23 _ _ ?_
      refine T.region (l := [0, 1, 2, 3, 4, 5, 6, 7, 8, 9]) rfl ?_
      refine RN.m rfl ?_
      refine RN.p rfl (p_makeIfaceP rfl Tryz.underlying24 rfl) ?_
      refine RN.p rfl (p_fieldAddr rfl fa_31_1 rfl) ?_
      refine RN.u rfl (by first | exact (q_load rfl sc_3 rfl (i := 0) rfl rfl) | exact (q_load rfl sc_3 rfl (i := 1) rfl rfl) | exact (q_load rfl sc_3 rfl (i := 2) rfl rfl) | exact (q_load rfl sc_3 rfl (i := 3) rfl rfl) | exact (q_load rfl sc_3 rfl (i := 4) rfl rfl)) ?_
      refine RN.p rfl (p_fieldAddr rfl fa_31_2 rfl) ?_
      refine RN.u rfl (by first | exact (q_load rfl sc_3 rfl (i := 0) rfl rfl) | exact (q_load rfl sc_3 rfl (i := 1) rfl rfl) | exact (q_load rfl sc_3 rfl (i := 2) rfl rfl) | exact (q_load rfl sc_3 rfl (i := 3) rfl rfl) | exact (q_load rfl sc_3 rfl (i := 4) rfl rfl)) ?_
      refine RN.p rfl (p_fieldAddr rfl fa_31_4 rfl) ?_
      refine RN.u rfl (by first | exact (q_load rfl sc_9 rfl (i := 0) rfl rfl) | exact (q_load rfl sc_9 rfl (i := 1) rfl rfl) | exact (q_load rfl sc_9 rfl (i := 2) rfl rfl) | exact (q_load rfl sc_9 rfl (i := 3) rfl rfl) | exact (q_load rfl sc_9 rfl (i := 4) rfl rfl)) ?_
      refine RN.C [1] rfl rfl rfl rfl (c_call rfl rfl) (Fill_A a s cs[i].lba cs[i].n cs[i].data (by omega) hdl) rfl ?_
      rintro _ _ ⟨rfl, rfl⟩
      refine RN.a rfl ?_
      refine RN.nil ?_
      refine ⟨(s, false), hsl, (LiveIs.cons rfl (LiveIs.cons rfl (LiveIs.cons rfl (LiveIs.cons rfl (LiveIs.cons rfl (LiveIs.cons rfl (LiveIs.cons rfl (LiveIs.cons rfl (LiveIs.cons (congrArg Value.bool (decide_eq_false h87)) (LiveIs.cons (congrArg (Value.int .i64) (by rw [if_neg hd0, erT_no hR]; rfl)) LiveIs.nil)))))))))), (by rw [if_neg hd0, wrT_no hR]; exact Ent.pull_drop (is := [1, 0, 0, 0, 0]) rfl)⟩
    ·
     have hd0 : cs[i].data = [] := Classical.not_not.1 h79
     refine RN.no0 rfl ?_
     refine RN.no0 rfl ?_
     refine RN.no0 rfl ?_
     refine RN.no0 rfl ?_
     refine RN.no0 rfl ?_
     refine RN.no0 rfl ?_
     refine RN.pf rfl ?_
     refine RN.a rfl ?_
     refine RN.nil ?_
     refine hK22 _ _ ?_
     refine T.seq fun K25 hK25 => ?_
     refine T.seq fun K26 hK26 => ?_
     refine T.region (l := [0]) rfl ?_
     refine RN.m rfl ?_
     refine RN.nil ?_
     refine hK26 _ _ ?_
     refine T.cond_f rfl ?_
     refine T.skip ?_
     refine hK25 _ _ ?_
     refine T.region (l := [0, 1, 2, 3, 4, 5, 6, 7, 8, 9]) rfl ?_
     refine RN.m rfl ?_
     refine RN.p rfl (p_makeIfaceP rfl Tryz.underlying24 rfl) ?_
     refine RN.p rfl (p_fieldAddr rfl fa_31_1 rfl) ?_
     refine RN.u rfl (by first | exact (q_load rfl sc_3 rfl (i := 0) rfl rfl) | exact (q_load rfl sc_3 rfl (i := 1) rfl rfl) | exact (q_load rfl sc_3 rfl (i := 2) rfl rfl) | exact (q_load rfl sc_3 rfl (i := 3) rfl rfl) | exact (q_load rfl sc_3 rfl (i := 4) rfl rfl)) ?_
     refine RN.p rfl (p_fieldAddr rfl fa_31_2 rfl) ?_
     refine RN.u rfl (by first | exact (q_load rfl sc_3 rfl (i := 0) rfl rfl) | exact (q_load rfl sc_3 rfl (i := 1) rfl rfl) | exact (q_load rfl sc_3 rfl (i := 2) rfl rfl) | exact (q_load rfl sc_3 rfl (i := 3) rfl rfl) | exact (q_load rfl sc_3 rfl (i := 4) rfl rfl)) ?_
     refine RN.p rfl (p_fieldAddr rfl fa_31_4 rfl) ?_
     refine RN.u rfl (by first | exact (q_load rfl sc_9 rfl (i := 0) rfl rfl) | exact (q_load rfl sc_9 rfl (i := 1) rfl rfl) | exact (q_load rfl sc_9 rfl (i := 2) rfl rfl) | exact (q_load rfl sc_9 rfl (i := 3) rfl rfl) | exact (q_load rfl sc_9 rfl (i := 4) rfl rfl)) ?_
     refine RN.C [1] rfl rfl rfl rfl (c_call rfl rfl) (Fill_A a s cs[i].lba cs[i].n cs[i].data (by omega) hdl) rfl ?_
     rintro _ _ ⟨rfl, rfl⟩
     refine RN.a rfl ?_
     refine RN.nil ?_
     refine ⟨(s, false), hsl, (LiveIs.cons rfl (LiveIs.cons rfl (LiveIs.cons rfl (LiveIs.cons rfl (LiveIs.cons rfl (LiveIs.cons rfl (LiveIs.cons rfl (LiveIs.cons rfl (LiveIs.cons rfl (LiveIs.cons (congrArg (Value.int .i64) (by rw [if_pos hd0]; rfl)) LiveIs.nil)))))))))), (by rw [if_pos hd0]; exact Ent.pull_drop (is := [1, 0, 0, 0, 0]) rfl)⟩
   ·
    refine T.seq fun K27 hK27 => ?_
    refine T.region (l := [0, 1]) rfl ?_
    refine RN.p rfl (p_eql rfl rfl rfl) ?_
    refine RN.a rfl ?_
    refine RN.nil ?_
    refine hK27 _ _ ?_
    first | refine T.cond_dec rfl (fun h112 => ?_) (fun h112 => ?_) | refine T.cond rfl (fun h112 => ?_) (fun h112 => ?_)
    ·
     refine T.seq fun K28 hK28 => ?_
     refine T.region (l := [0, 1, 2, 3, 4, 5, 6, 7, 8, 9, 10]) rfl ?_
     refine RN.m rfl ?_
     refine RN.p rfl (p_fieldAddr rfl fa_31_1 rfl) ?_
     refine RN.u rfl (by first | exact (q_load rfl sc_3 rfl (i := 0) rfl rfl) | exact (q_load rfl sc_3 rfl (i := 1) rfl rfl) | exact (q_load rfl sc_3 rfl (i := 2) rfl rfl) | exact (q_load rfl sc_3 rfl (i := 3) rfl rfl) | exact (q_load rfl sc_3 rfl (i := 4) rfl rfl)) ?_
     refine RN.p rfl (p_fieldAddr rfl fa_31_2 rfl) ?_
     refine RN.u rfl (by first | exact (q_load rfl sc_3 rfl (i := 0) rfl rfl) | exact (q_load rfl sc_3 rfl (i := 1) rfl rfl) | exact (q_load rfl sc_3 rfl (i := 2) rfl rfl) | exact (q_load rfl sc_3 rfl (i := 3) rfl rfl) | exact (q_load rfl sc_3 rfl (i := 4) rfl rfl)) ?_
     refine RN.C [] rfl rfl rfl rfl (c_call rfl rfl) (RRead_A s cs[i].lba cs[i].n (by omega)) rfl ?_
     rintro _ _ ⟨rfl, rfl⟩
     refine RN.m rfl ?_
     refine RN.p rfl (p_extract rfl rfl rfl) ?_
     refine RN.p rfl (p_extract rfl rfl rfl) ?_
     refine RN.a rfl ?_
     refine RN.a rfl ?_
     refine RN.nil ?_
     refine hK28 _ _ ?_
     refine T.seq fun K29 hK29 => ?_
     refine T.region (l := [0, 1]) rfl ?_
     refine RN.m rfl ?_
     refine RN.a rfl ?_
     refine RN.nil ?_
     refine hK29 _ _ ?_
     refine T.seq fun K30 hK30 => ?_
     refine T.seq fun K31 hK31 => ?_
     refine T.region (l := [0]) rfl ?_
     refine RN.m rfl ?_
     refine RN.nil ?_
     refine hK31 _ _ ?_
     first | refine T.cond_dec rfl (fun h124 => ?_) (fun h124 => ?_) | refine T.cond rfl (fun h124 => ?_) (fun h124 => ?_)
     ·
      have hR : Right (s.length / 32 : Nat) cs[i].lba cs[i].n := h124
      have hR2 := h124
      unfold Right at hR2
      refine T.region (l := [0, 1, 2, 3, 4, 5, 6, 7, 8, 9, 10, 11]) rfl ?_
      refine RN.m rfl ?_
      refine RN.p rfl (p_fieldAddr rfl fa_31_3 rfl) ?_
      refine RN.u rfl (by first | exact (q_load rfl sc_3 rfl (i := 0) rfl rfl) | exact (q_load rfl sc_3 rfl (i := 1) rfl rfl) | exact (q_load rfl sc_3 rfl (i := 2) rfl rfl) | exact (q_load rfl sc_3 rfl (i := 3) rfl rfl) | exact (q_load rfl sc_3 rfl (i := 4) rfl rfl)) ?_
      refine RN.p rfl (p_fieldAddr rfl fa_31_2 rfl) ?_
      refine RN.u rfl (by first | exact (q_load rfl sc_3 rfl (i := 0) rfl rfl) | exact (q_load rfl sc_3 rfl (i := 1) rfl rfl) | exact (q_load rfl sc_3 rfl (i := 2) rfl rfl) | exact (q_load rfl sc_3 rfl (i := 3) rfl rfl) | exact (q_load rfl sc_3 rfl (i := 4) rfl rfl)) ?_
      refine RN.m rfl ?_
      refine RN.C [] rfl rfl rfl rfl (c_call rfl rfl) (RWrite_A s cs[i].at_ cs[i].n (rdT s cs[i].lba cs[i].n) (by omega) (by rw [rdT_length hR]; omega)) rfl ?_
      rintro _ _ ⟨rfl, rfl⟩
      refine RN.m rfl ?_
      refine RN.p rfl (p_extract rfl rfl rfl) ?_
      refine RN.p rfl (p_extract rfl rfl rfl) ?_
      refine RN.a rfl ?_
      refine RN.a rfl ?_
      refine RN.nil ?_
      refine hK30 _ _ ?_
      refine T.region (l := [0, 1, 2, 3, 4, 5, 6, 7, 8, 9, 10, 11]) rfl ?_
      refine RN.m rfl ?_
      refine RN.p rfl (p_makeIfaceP rfl Tryz.underlying24 rfl) ?_
      refine RN.m rfl ?_
      refine RN.p rfl (p_makeIfaceP rfl Tryz.underlying24 rfl) ?_
      refine RN.p rfl (p_fieldAddr rfl fa_31_1 rfl) ?_
      refine RN.u rfl (by first | exact (q_load rfl sc_3 rfl (i := 0) rfl rfl) | exact (q_load rfl sc_3 rfl (i := 1) rfl rfl) | exact (q_load rfl sc_3 rfl (i := 2) rfl rfl) | exact (q_load rfl sc_3 rfl (i := 3) rfl rfl) | exact (q_load rfl sc_3 rfl (i := 4) rfl rfl)) ?_
      refine RN.p rfl (p_fieldAddr rfl fa_31_2 rfl) ?_
      refine RN.u rfl (by first | exact (q_load rfl sc_3 rfl (i := 0) rfl rfl) | exact (q_load rfl sc_3 rfl (i := 1) rfl rfl) | exact (q_load rfl sc_3 rfl (i := 2) rfl rfl) | exact (q_load rfl sc_3 rfl (i := 3) rfl rfl) | exact (q_load rfl sc_3 rfl (i := 4) rfl rfl)) ?_
      refine RN.p rfl (p_fieldAddr rfl fa_31_3 rfl) ?_
      refine RN.u rfl (by first | exact (q_load rfl sc_3 rfl (i := 0) rfl rfl) | exact (q_load rfl sc_3 rfl (i := 1) rfl rfl) | exact (q_load rfl sc_3 rfl (i := 2) rfl rfl) | exact (q_load rfl sc_3 rfl (i := 3) rfl rfl) | exact (q_load rfl sc_3 rfl (i := 4) rfl rfl)) ?_
      refine RN.C [1] rfl rfl rfl rfl (c_call rfl rfl) (Copyd_A a s cs[i].lba cs[i].n cs[i].at_) rfl ?_
      rintro _ _ ⟨rfl, rfl⟩
      refine RN.a rfl ?_
      refine RN.nil ?_
      refine ⟨(wrT s cs[i].at_ cs[i].n (rdT s cs[i].lba cs[i].n), decide (Right (s.length / 32 : Nat) cs[i].at_ cs[i].n)), ((wrT_length _ _ _ _).trans hsl), (LiveIs.cons rfl (LiveIs.cons rfl (LiveIs.cons rfl (LiveIs.cons rfl (LiveIs.cons rfl (LiveIs.cons rfl (LiveIs.cons rfl (LiveIs.cons rfl (LiveIs.cons rfl (LiveIs.cons (congrArg (Value.int .i64) (by rw [cpE, if_pos hR]; exact erT_cond _ _ _)) LiveIs.nil)))))))))), (by rw [cpT, if_pos hR]; exact (Ent.pull_drop (is := [1, 0, 0, 0, 0]) rfl).trans (Ent.cons (Ent.refl _) (Ent.cons (Ent.of_eq (congrArg (arrA 59 60 5 a) (wrT_cond _ _ _ _))) (Ent.refl _))))⟩
     ·
      have hR : ¬ Right (s.length / 32 : Nat) cs[i].lba cs[i].n := h124
      refine T.skip ?_
      refine hK30 _ _ ?_
      refine T.region (l := [0, 1, 2, 3, 4, 5, 6, 7, 8, 9, 10, 11]) rfl ?_
      refine RN.m rfl ?_
      refine RN.p rfl (p_makeIfaceP rfl Tryz.underlying24 rfl) ?_
      refine RN.m rfl ?_
      refine RN.p rfl (p_makeIfaceP rfl Tryz.underlying24 rfl) ?_
      refine RN.p rfl (p_fieldAddr rfl fa_31_1 rfl) ?_
      refine RN.u rfl (by first | exact (q_load rfl sc_3 rfl (i := 0) rfl rfl) | exact (q_load rfl sc_3 rfl (i := 1) rfl rfl) | exact (q_load rfl sc_3 rfl (i := 2) rfl rfl) | exact (q_load rfl sc_3 rfl (i := 3) rfl rfl) | exact (q_load rfl sc_3 rfl (i := 4) rfl rfl)) ?_
      refine RN.p rfl (p_fieldAddr rfl fa_31_2 rfl) ?_
      refine RN.u rfl (by first | exact (q_load rfl sc_3 rfl (i := 0) rfl rfl) | exact (q_load rfl sc_3 rfl (i := 1) rfl rfl) | exact (q_load rfl sc_3 rfl (i := 2) rfl rfl) | exact (q_load rfl sc_3 rfl (i := 3) rfl rfl) | exact (q_load rfl sc_3 rfl (i := 4) rfl rfl)) ?_
      refine RN.p rfl (p_fieldAddr rfl fa_31_3 rfl) ?_
      refine RN.u rfl (by first | exact (q_load rfl sc_3 rfl (i := 0) rfl rfl) | exact (q_load rfl sc_3 rfl (i := 1) rfl rfl) | exact (q_load rfl sc_3 rfl (i := 2) rfl rfl) | exact (q_load rfl sc_3 rfl (i := 3) rfl rfl) | exact (q_load rfl sc_3 rfl (i := 4) rfl rfl)) ?_
      refine RN.C [1] rfl rfl rfl rfl (c_call rfl rfl) (Copyd_A a s cs[i].lba cs[i].n cs[i].at_) rfl ?_
      rintro _ _ ⟨rfl, rfl⟩
      refine RN.a rfl ?_
      refine RN.nil ?_
      refine ⟨(s, false), hsl, (LiveIs.cons rfl (LiveIs.cons rfl (LiveIs.cons rfl (LiveIs.cons rfl (LiveIs.cons rfl (LiveIs.cons rfl (LiveIs.cons rfl (LiveIs.cons rfl (LiveIs.cons (congrArg Value.bool (decide_eq_false hR)) (LiveIs.cons (congrArg (Value.int .i64) (by rw [cpE, if_neg hR]; rfl)) LiveIs.nil)))))))))), (by rw [cpT, if_neg hR]; exact Ent.pull_drop (is := [1, 0, 0, 0, 0]) rfl)⟩
    ·
     refine T.seq fun K32 hK32 => ?_
     refine T.region (l := [0, 1]) rfl ?_
     refine RN.p rfl (p_eql rfl rfl rfl) ?_
     refine RN.a rfl ?_
     refine RN.nil ?_
     refine hK32 _ _ ?_
     first | refine T.cond_dec rfl (fun h146 => ?_) (fun h146 => ?_) | refine T.cond rfl (fun h146 => ?_) (fun h146 => ?_)
     ·
      refine T.seq fun K33 hK33 => ?_
      refine T.region (l := [0, 1, 2, 3, 4, 5, 6, 7, 8, 9, 10]) rfl ?_
      refine RN.m rfl ?_
      refine RN.p rfl (p_fieldAddr rfl fa_31_1 rfl) ?_
      refine RN.u rfl (by first | exact (q_load rfl sc_3 rfl (i := 0) rfl rfl) | exact (q_load rfl sc_3 rfl (i := 1) rfl rfl) | exact (q_load rfl sc_3 rfl (i := 2) rfl rfl) | exact (q_load rfl sc_3 rfl (i := 3) rfl rfl) | exact (q_load rfl sc_3 rfl (i := 4) rfl rfl)) ?_
      refine RN.p rfl (p_fieldAddr rfl fa_31_2 rfl) ?_
      refine RN.u rfl (by first | exact (q_load rfl sc_3 rfl (i := 0) rfl rfl) | exact (q_load rfl sc_3 rfl (i := 1) rfl rfl) | exact (q_load rfl sc_3 rfl (i := 2) rfl rfl) | exact (q_load rfl sc_3 rfl (i := 3) rfl rfl) | exact (q_load rfl sc_3 rfl (i := 4) rfl rfl)) ?_
      refine RN.C [] rfl rfl rfl rfl (c_call rfl rfl) (RRead_A s cs[i].lba cs[i].n (by omega)) rfl ?_
      rintro _ _ ⟨rfl, rfl⟩
      refine RN.m rfl ?_
      refine RN.p rfl (p_extract rfl rfl rfl) ?_
      refine RN.p rfl (p_extract rfl rfl rfl) ?_
      refine RN.a rfl ?_
      refine RN.a rfl ?_
      refine RN.nil ?_
      refine hK33 _ _ ?_
      refine T.seq fun K34 hK34 => ?_
      refine T.region (l := [0, 1, 2, 3, 4, 5, 6, 7, 8, 9, 10]) rfl ?_
      refine RN.m rfl ?_
      refine RN.p rfl (p_fieldAddr rfl fa_31_1 rfl) ?_
      refine RN.u rfl (by first | exact (q_load rfl sc_3 rfl (i := 0) rfl rfl) | exact (q_load rfl sc_3 rfl (i := 1) rfl rfl) | exact (q_load rfl sc_3 rfl (i := 2) rfl rfl) | exact (q_load rfl sc_3 rfl (i := 3) rfl rfl) | exact (q_load rfl sc_3 rfl (i := 4) rfl rfl)) ?_
      refine RN.p rfl (p_fieldAddr rfl fa_31_2 rfl) ?_
      refine RN.u rfl (by first | exact (q_load rfl sc_3 rfl (i := 0) rfl rfl) | exact (q_load rfl sc_3 rfl (i := 1) rfl rfl) | exact (q_load rfl sc_3 rfl (i := 2) rfl rfl) | exact (q_load rfl sc_3 rfl (i := 3) rfl rfl) | exact (q_load rfl sc_3 rfl (i := 4) rfl rfl)) ?_
      refine RN.C [] rfl rfl rfl rfl (c_call rfl rfl) (RRead_A (List.replicate (sz * 32) 0) cs[i].lba cs[i].n (by rw [List.length_replicate]; omega)) rfl ?_
      rintro _ _ ⟨rfl, rfl⟩
      refine RN.m rfl ?_
      refine RN.p rfl (p_extract rfl rfl rfl) ?_
      refine RN.p rfl (p_extract rfl rfl rfl) ?_
      refine RN.a rfl ?_
      refine RN.a rfl ?_
      refine RN.nil ?_
      refine hK34 _ _ ?_
      refine T.seq fun K35 hK35 => ?_
      refine T.region (l := [0, 1, 2, 3, 4, 5, 6, 7, 8, 9, 10, 11, 12, 13]) rfl ?_
      refine RN.m rfl ?_
      refine RN.p rfl (p_makeIfaceP rfl Tryz.underlying24 rfl) ?_
      refine RN.m rfl ?_
      refine RN.p rfl (p_makeIfaceP rfl Tryz.underlying24 rfl) ?_
      refine RN.p rfl (p_fieldAddr rfl fa_31_1 rfl) ?_
      refine RN.u rfl (by first | exact (q_load rfl sc_3 rfl (i := 0) rfl rfl) | exact (q_load rfl sc_3 rfl (i := 1) rfl rfl) | exact (q_load rfl sc_3 rfl (i := 2) rfl rfl) | exact (q_load rfl sc_3 rfl (i := 3) rfl rfl) | exact (q_load rfl sc_3 rfl (i := 4) rfl rfl)) ?_
      refine RN.p rfl (p_fieldAddr rfl fa_31_2 rfl) ?_
      refine RN.u rfl (by first | exact (q_load rfl sc_3 rfl (i := 0) rfl rfl) | exact (q_load rfl sc_3 rfl (i := 1) rfl rfl) | exact (q_load rfl sc_3 rfl (i := 2) rfl rfl) | exact (q_load rfl sc_3 rfl (i := 3) rfl rfl) | exact (q_load rfl sc_3 rfl (i := 4) rfl rfl)) ?_
      refine RN.C [1, 1] rfl rfl rfl rfl (c_call rfl rfl) (Same_A a b s (List.replicate (sz * 32) 0) cs[i].lba cs[i].n) rfl ?_
      rintro _ _ ⟨rfl, rfl⟩
      refine RN.m rfl ?_
      refine RN.p rfl (p_extract rfl rfl rfl) ?_
      refine RN.p rfl (p_extract rfl rfl rfl) ?_
      refine RN.a rfl ?_
      refine RN.a rfl ?_
      refine RN.nil ?_
      refine hK35 _ _ ?_
      refine T.seq fun K36 hK36 => ?_
      refine T.region (l := [0, 1]) rfl ?_
      refine RN.m rfl ?_
      refine RN.a rfl ?_
      refine RN.nil ?_
      refine hK36 _ _ ?_
      refine T.seq fun K37 hK37 => ?_
      refine T.region (l := [0, 1]) rfl ?_
      refine RN.m rfl ?_
      refine RN.a rfl ?_
      refine RN.nil ?_
      refine hK37 _ _ ?_
      refine T.seq fun K38 hK38 => ?_
      refine T.region (l := [0, 1, 2, 3, 4, 5, 6, 7]) rfl ?_
      refine RN.m rfl ?_
      refine RN.m rfl ?_
      refine RN.m rfl ?_
      first | refine RN.split_dec 182 rfl (fun h182 => ?_) (fun h182 => ?_) | refine RN.split 182 rfl (fun h182 => ?_) (fun h182 => ?_)
      ·
       refine RN.m rfl ?_
       refine RN.m rfl ?_
       refine RN.p rfl (p_seql rfl rfl rfl) ?_
       refine RN.pt rfl ?_
       refine RN.p rfl (p_bneq rfl rfl rfl Tryz.underlying4) ?_
       refine RN.nil ?_
       refine hK38 _ _ ?_
       refine T.known 187 rfl (show _ = Value.bool false from congrArg Value.bool (same_yes h182 (by rw [hsl, List.length_replicate]))) ?_
       refine T.cond_f rfl ?_
       refine T.skip ?_
       refine ⟨(s, decide (Right (s.length / 32 : Nat) cs[i].lba cs[i].n)), hsl, (LiveIs.cons rfl (LiveIs.cons rfl (LiveIs.cons rfl (LiveIs.cons rfl (LiveIs.cons rfl (LiveIs.cons rfl (LiveIs.cons rfl (LiveIs.cons rfl (LiveIs.cons rfl (LiveIs.cons (congrArg (Value.int .i64) (by rw [show erT (List.replicate (sz * 32) 0) cs[i].lba cs[i].n = erT s cs[i].lba cs[i].n from erT_len (by rw [hsl, List.length_replicate]) _ _]; exact ifer_cond _ _ _)) LiveIs.nil)))))))))), ((Ent.pull_drop (is := [2, 1, 0, 0, 0]) rfl).trans (Ent.cons (Ent.refl _) (Ent.cons (Ent.of_eq (congrArg (arrA 59 60 5 a) (cond_same _ _))) (Ent.refl _))))⟩
      ·
       refine RN.no0 rfl ?_
       refine RN.no0 rfl ?_
       refine RN.no0 rfl ?_
       refine RN.pf rfl ?_
       refine RN.p rfl (p_bneq rfl rfl rfl Tryz.underlying4) ?_
       refine RN.nil ?_
       refine hK38 _ _ ?_
       refine T.known 187 rfl (show _ = Value.bool false from congrArg Value.bool (same_no h182)) ?_
       refine T.cond_f rfl ?_
       refine T.skip ?_
       refine ⟨(s, decide (Right (s.length / 32 : Nat) cs[i].lba cs[i].n)), hsl, (LiveIs.cons rfl (LiveIs.cons rfl (LiveIs.cons rfl (LiveIs.cons rfl (LiveIs.cons rfl (LiveIs.cons rfl (LiveIs.cons rfl (LiveIs.cons rfl (LiveIs.cons rfl (LiveIs.cons (congrArg (Value.int .i64) (by rw [show erT (List.replicate (sz * 32) 0) cs[i].lba cs[i].n = erT s cs[i].lba cs[i].n from erT_len (by rw [hsl, List.length_replicate]) _ _]; exact ifer_cond _ _ _)) LiveIs.nil)))))))))), ((Ent.pull_drop (is := [2, 1, 0, 0, 0]) rfl).trans (Ent.cons (Ent.refl _) (Ent.cons (Ent.of_eq (congrArg (arrA 59 60 5 a) (cond_same _ _))) (Ent.refl _))))⟩
     ·
      refine T.seq fun K39 hK39 => ?_
      refine T.region (l := [0, 1, 2, 3, 4, 5, 6, 7, 8, 9, 10]) rfl ?_
      refine RN.m rfl ?_
      refine RN.p rfl (p_fieldAddr rfl fa_31_1 rfl) ?_
      refine RN.u rfl (by first | exact (q_load rfl sc_3 rfl (i := 0) rfl rfl) | exact (q_load rfl sc_3 rfl (i := 1) rfl rfl) | exact (q_load rfl sc_3 rfl (i := 2) rfl rfl) | exact (q_load rfl sc_3 rfl (i := 3) rfl rfl) | exact (q_load rfl sc_3 rfl (i := 4) rfl rfl)) ?_
      refine RN.p rfl (p_fieldAddr rfl fa_31_2 rfl) ?_
      refine RN.u rfl (by first | exact (q_load rfl sc_3 rfl (i := 0) rfl rfl) | exact (q_load rfl sc_3 rfl (i := 1) rfl rfl) | exact (q_load rfl sc_3 rfl (i := 2) rfl rfl) | exact (q_load rfl sc_3 rfl (i := 3) rfl rfl) | exact (q_load rfl sc_3 rfl (i := 4) rfl rfl)) ?_
      refine RN.C [] rfl rfl rfl rfl (c_call rfl rfl) (RWrite_A s cs[i].lba cs[i].n [] (by omega) (by simp)) rfl ?_
      rintro _ _ ⟨rfl, rfl⟩
      refine RN.m rfl ?_
      refine RN.p rfl (p_extract rfl rfl rfl) ?_
      refine RN.p rfl (p_extract rfl rfl rfl) ?_
      refine RN.a rfl ?_
      refine RN.a rfl ?_
      refine RN.nil ?_
      refine hK39 _ _ ?_
      refine T.region (l := [0, 1, 2, 3, 4, 5, 6]) rfl ?_
      refine RN.m rfl ?_
      refine RN.p rfl (p_fieldAddr rfl fa_31_1 rfl) ?_
      refine RN.u rfl (by first | exact (q_load rfl sc_3 rfl (i := 0) rfl rfl) | exact (q_load rfl sc_3 rfl (i := 1) rfl rfl) | exact (q_load rfl sc_3 rfl (i := 2) rfl rfl) | exact (q_load rfl sc_3 rfl (i := 3) rfl rfl) | exact (q_load rfl sc_3 rfl (i := 4) rfl rfl)) ?_
      refine RN.p rfl (p_fieldAddr rfl fa_31_2 rfl) ?_
      refine RN.u rfl (by first | exact (q_load rfl sc_3 rfl (i := 0) rfl rfl) | exact (q_load rfl sc_3 rfl (i := 1) rfl rfl) | exact (q_load rfl sc_3 rfl (i := 2) rfl rfl) | exact (q_load rfl sc_3 rfl (i := 3) rfl rfl) | exact (q_load rfl sc_3 rfl (i := 4) rfl rfl)) ?_
      refine RN.C [1] rfl rfl rfl rfl (c_call rfl rfl) (Trim_A a s cs[i].lba cs[i].n) rfl ?_
      rintro _ _ ⟨rfl, rfl⟩
      refine RN.a rfl ?_
      refine RN.nil ?_
      refine ⟨(wrT s cs[i].lba cs[i].n [], decide (Right (s.length / 32 : Nat) cs[i].lba cs[i].n)), ((wrT_length _ _ _ _).trans hsl), (LiveIs.cons rfl (LiveIs.cons rfl (LiveIs.cons rfl (LiveIs.cons rfl (LiveIs.cons rfl (LiveIs.cons rfl (LiveIs.cons rfl (LiveIs.cons rfl (LiveIs.cons rfl (LiveIs.cons (congrArg (Value.int .i64) (erT_cond _ _ _)) LiveIs.nil)))))))))), ((Ent.pull_drop (is := [1, 0, 0, 0, 0]) rfl).trans (Ent.cons (Ent.refl _) (Ent.cons (Ent.of_eq (congrArg (arrA 59 60 5 a) (wrT_cond _ _ _ _))) (Ent.refl _))))⟩
  ·
   rintro ⟨tn, ok⟩ e19 hTl
   dsimp only at *
   refine T.seq fun K40 hK40 => ?_
   refine T.seq fun K41 hK41 => ?_
   refine T.region (l := [0, 1]) rfl ?_
   refine RN.m rfl ?_
   refine RN.p rfl (by first | exact (p_not_dec rfl rfl) | exact (p_not rfl rfl)) ?_
   refine RN.nil ?_
   refine hK41 _ _ ?_
   first | refine T.cond_dec rfl (fun h189 => ?_) (fun h189 => ?_) | refine T.cond rfl (fun h189 => ?_) (fun h189 => ?_)
   ·
    obtain rfl : ok = false := by simpa using h189
    refine T.seq fun K42 hK42 => ?_
    refine T.seq fun K43 hK43 => ?_
    refine T.region (l := [0, 1]) rfl ?_
    refine RN.m rfl ?_
    refine RN.p rfl (p_neq rfl rfl rfl) ?_
    refine RN.nil ?_
    refine hK43 _ _ ?_
    refine T.known 191 rfl (show _ = Value.bool false from congrArg Value.bool (decide_eq_false (not_not_intro rfl))) ?_
    refine T.cond_f rfl ?_
    refine T.skip ?_
    refine hK42 _ _ ?_
    refine T.exit ?_
    refine Post.seq_x ?_
    refine Post.block_hit ?_
    refine hK15 _ _ ?_
    refine T.region (l := [0, 1, 2]) rfl ?_
    refine RN.m rfl ?_
    refine RN.p rfl (by first | exact (p_addN (b := 1) rfl rfl rfl (by omega)) | exact (p_add rfl rfl rfl (by omega))) ?_
    refine RN.a rfl ?_
    refine RN.nil ?_
    refine ⟨(i + 1, s), ⟨by omega, hsl⟩, (by simp; omega), (LiveIs.cons rfl (LiveIs.cons rfl (LiveIs.cons rfl (LiveIs.cons rfl (LiveIs.cons rfl (LiveIs.cons rfl (LiveIs.cons rfl LiveIs.nil))))))), (Ent.pull_drop (is := [1, 1, 1, 1]) rfl)⟩
   ·
    obtain rfl : ok = true := by simpa using h189
    refine T.skip ?_
    refine hK40 _ _ ?_
    refine T.seq fun K44 hK44 => ?_
    refine T.region (l := [0, 1]) rfl ?_
    refine RN.m rfl ?_
    refine RN.a rfl ?_
    refine RN.nil ?_
    refine hK44 _ _ ?_
    refine T.seq fun K45 hK45 => ?_
    refine T.region (l := [0, 1, 2, 3, 4, 5, 6, 7, 8, 9, 10, 11, 12, 13, 14, 15, 16, 17, 18, 19, 20]) rfl ?_
    refine RN.m rfl ?_
    refine RN.p rfl (p_neq rfl rfl rfl) ?_
    refine RN.m rfl ?_
    refine RN.known 195 rfl (show _ = Value.bool false from congrArg Value.bool (decide_eq_false (not_not_intro rfl))) ?_
    refine RN.m rfl ?_
    refine RN.C [1] rfl rfl rfl rfl (c_call rfl rfl) (Content_A a tn) rfl ?_
    rintro _ _ ⟨rfl, rfl⟩
    refine RN.m rfl ?_
    refine RN.p rfl (p_sneq rfl rfl rfl) ?_
    refine RN.pf rfl ?_
    refine RN.m rfl ?_
    refine RN.known 201 rfl (show _ = Value.bool false from congrArg Value.bool (decide_eq_false (not_not_intro rfl))) ?_
    refine RN.m rfl ?_
    refine RN.C [2] rfl rfl rfl rfl (c_call rfl rfl) (Content_A b (List.replicate (sz * 32) 0)) rfl ?_
    rintro _ _ ⟨rfl, rfl⟩
    refine RN.m rfl ?_
    refine RN.p rfl (p_sneq rfl rfl rfl) ?_
    refine RN.pf rfl ?_
    refine RN.m rfl ?_
    refine RN.known 207 rfl (show _ = Value.bool false from congrArg Value.bool (decide_eq_false (not_not_intro rfl))) ?_
    refine RN.m rfl ?_
    refine RN.p rfl (p_makeIfaceP rfl Tryz.underlying24 rfl) ?_
    refine RN.C [1] rfl rfl rfl rfl (c_call rfl rfl) (Sectors_A a tn (by omega)) rfl ?_
    rintro _ _ ⟨rfl, rfl⟩
    refine RN.m rfl ?_
    refine RN.p rfl (p_neq rfl rfl rfl) ?_
    refine RN.pf rfl ?_
    refine RN.nil ?_
    refine hK45 _ _ ?_
    refine T.known 213 rfl (show _ = Value.bool false from congrArg Value.bool (decide_eq_false (not_not_intro (by rw [hTl]; exact congrArg Int.ofNat (Nat.mul_div_cancel sz (by decide)))))) ?_
    refine T.cond_f rfl ?_
    refine T.skip ?_
    refine hK15 _ _ ?_
    refine T.region (l := [0, 1, 2]) rfl ?_
    refine RN.m rfl ?_
    refine RN.p rfl (by first | exact (p_addN (b := 1) rfl rfl rfl (by omega)) | exact (p_add rfl rfl rfl (by omega))) ?_
    refine RN.a rfl ?_
    refine RN.nil ?_
    refine ⟨(i + 1, tn), ⟨by omega, hTl⟩, (by simp; omega), (LiveIs.cons rfl (LiveIs.cons rfl (LiveIs.cons rfl (LiveIs.cons rfl (LiveIs.cons rfl (LiveIs.cons rfl (LiveIs.cons rfl LiveIs.nil))))))), (Ent.pull_drop (is := [0, 0, 1, 1]) rfl)⟩
 ·
  refine T.exit ?_
  refine Post.seq_x ?_
  refine Post.seq_x ?_
  refine Post.block_hit ?_
  refine hK10 _ _ ?_
  refine T.seq fun K46 hK46 => ?_
  refine T.region (l := [0]) rfl ?_
  refine RN.a rfl ?_
  refine RN.nil ?_
  refine hK46 _ _ ?_
  refine T.ret ?_
  refine bodyQ_ret [old w0] (RetRun.tmp RetRun.nil) ⟨rfl, rfl⟩ (Ent.pull_drop (is := [2, 2]) rfl)

end Go.Proofs.YtlbebaipmgjdbaaGreat
