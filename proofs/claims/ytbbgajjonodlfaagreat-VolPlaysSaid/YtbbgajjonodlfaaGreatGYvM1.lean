/-
 Walks of package model.
-/
import Derived.Test.YtbbgajjonodlfaaGreatGYvTy
import Derived.Test.YtbbgajjonodlfaaGreatGModelP
import Derived.Test.YtbbgajjonodlfaaGreatGSl26
set_option linter.unusedVariables false
set_option linter.unusedSimpArgs false
namespace Go.Proofs.YtbbgajjonodlfaaGreat
open Go Go.Sl Go.Proofs
set_option maxRecDepth 20000
open Go.Mo
theorem right_spec (a : Nat) (lba n : Int) (base : Option Addr) (c cap : Nat) (hc : c ≤ 9223372036854775807) : Ctr Tryz.prog 26 [ptr a 0, .int .i64 lba, .int .i64 n] [row a 63 [.slice base c cap]] (fun v Ps => v = .bool (decide (Right c lba n)) ∧ Ps = [row a 63 [.slice base c cap]]) := by
 refine Ctr.of_body Tryz.func26 rfl (by kernel_rfl) Tryz.ntmps26 rfl rfl (fun Fr => ?_)
 refine T.seq fun K1 hK1 => ?_
 refine T.region (l := [0]) rfl ?_
 refine RN.a rfl ?_
 refine RN.nil ?_
 refine hK1 _ _ ?_
 refine T.seq fun K2 hK2 => ?_
 refine T.region (l := [0, 1, 2, 3, 4, 5, 6, 7, 8, 9, 10, 11, 12, 13, 14, 15, 16, 17, 18, 19, 20, 21, 22, 23, 24, 25, 26]) rfl ?_
 refine RN.m rfl ?_
 refine RN.p rfl (p_geq rfl rfl rfl) ?_
 refine RN.m rfl ?_
 refine RN.split_dec 9 rfl (fun h9 => ?_) (fun h9 => ?_)
 ·
  refine RN.m rfl ?_
  refine RN.m rfl ?_
  refine RN.p rfl (p_nilCheck rfl rfl) ?_
  refine RN.p rfl (p_fieldAddr rfl fa_63_0 rfl) ?_
  refine RN.u rfl (by exact (q_load rfl sc_61 rfl (i := 0) rfl rfl)) ?_
  refine RN.p rfl (p_len rfl Tryz.underlying61 rfl) ?_
  refine RN.p rfl (p_leq rfl rfl rfl) ?_
  refine RN.pt rfl ?_
  refine RN.m rfl ?_
  refine RN.split_dec 18 rfl (fun h18 => ?_) (fun h18 => ?_)
  ·
   refine RN.m rfl ?_
   refine RN.p rfl (p_geq rfl rfl rfl) ?_
   refine RN.pt rfl ?_
   refine RN.m rfl ?_
   refine RN.split_dec 22 rfl (fun h22 => ?_) (fun h22 => ?_)
   ·
    refine RN.m rfl ?_
    refine RN.m rfl ?_
    refine RN.p rfl (p_nilCheck rfl rfl) ?_
    refine RN.p rfl (p_fieldAddr rfl fa_63_0 rfl) ?_
    refine RN.u rfl (by exact (q_load rfl sc_61 rfl (i := 0) rfl rfl)) ?_
    refine RN.p rfl (p_len rfl Tryz.underlying61 rfl) ?_
    refine RN.m rfl ?_
    refine RN.p rfl (by exact (p_sub rfl rfl rfl (by omega))) ?_
    refine RN.p rfl (p_leq rfl rfl rfl) ?_
    refine RN.pt rfl ?_
    refine RN.a rfl ?_
    refine RN.nil ?_
    refine hK2 _ _ ?_
    refine T.ret ?_
    refine bodyQ_ret [row a 63 [.slice base c cap]] (RetRun.tmp RetRun.nil) ⟨congrArg Value.bool (by simp only [Right]; (simp [*]; done)), rfl⟩ (Ent.refl _)
   ·
    refine RN.no0 rfl ?_
    refine RN.no0 rfl ?_
    refine RN.no0 rfl ?_
    refine RN.no0 rfl ?_
    refine RN.no0 rfl ?_
    refine RN.no0 rfl ?_
    refine RN.no0 rfl ?_
    refine RN.no0 rfl ?_
    refine RN.no0 rfl ?_
    refine RN.pf rfl ?_
    refine RN.a rfl ?_
    refine RN.nil ?_
    refine hK2 _ _ ?_
    refine T.ret ?_
    refine bodyQ_ret [row a 63 [.slice base c cap]] (RetRun.tmp RetRun.nil) ⟨congrArg Value.bool (by simp only [Right]; (simp [*]; done)), rfl⟩ (Ent.refl _)
  ·
   refine RN.no0 rfl ?_
   refine RN.no0 rfl ?_
   refine RN.pf rfl ?_
   refine RN.m rfl ?_
   refine RN.no0 rfl ?_
   refine RN.no0 rfl ?_
   refine RN.no0 rfl ?_
   refine RN.no0 rfl ?_
   refine RN.no0 rfl ?_
   refine RN.no0 rfl ?_
   refine RN.no0 rfl ?_
   refine RN.no0 rfl ?_
   refine RN.no0 rfl ?_
   refine RN.pf rfl ?_
   refine RN.a rfl ?_
   refine RN.nil ?_
   refine hK2 _ _ ?_
   refine T.ret ?_
   refine bodyQ_ret [row a 63 [.slice base c cap]] (RetRun.tmp RetRun.nil) ⟨congrArg Value.bool (by simp only [Right]; (simp [*]; done)), rfl⟩ (Ent.refl _)
 ·
  refine RN.no0 rfl ?_
  refine RN.no0 rfl ?_
  refine RN.no0 rfl ?_
  refine RN.no0 rfl ?_
  refine RN.no0 rfl ?_
  refine RN.no0 rfl ?_
  refine RN.no0 rfl ?_
  refine RN.pf rfl ?_
  refine RN.m rfl ?_
  refine RN.no0 rfl ?_
  refine RN.no0 rfl ?_
  refine RN.pf rfl ?_
  refine RN.m rfl ?_
  refine RN.no0 rfl ?_
  refine RN.no0 rfl ?_
  refine RN.no0 rfl ?_
  refine RN.no0 rfl ?_
  refine RN.no0 rfl ?_
  refine RN.no0 rfl ?_
  refine RN.no0 rfl ?_
  refine RN.no0 rfl ?_
  refine RN.no0 rfl ?_
  refine RN.pf rfl ?_
  refine RN.a rfl ?_
  refine RN.nil ?_
  refine hK2 _ _ ?_
  refine T.ret ?_
  refine bodyQ_ret [row a 63 [.slice base c cap]] (RetRun.tmp RetRun.nil) ⟨congrArg Value.bool (by simp only [Right]; (simp [*]; done)), rfl⟩ (Ent.refl _)

theorem Right9_spec (c lba n : Int) (hc : 0 ≤ c ∧ c ≤ 9223372036854775807) : Ctr Tryz.prog 27 [.int .i64 c, .int .i64 lba, .int .i64 n] [] (fun v Ps => v = .bool (decide (Right c lba n)) ∧ Ps = []) := by
 refine Ctr.of_body Tryz.func27 rfl (by kernel_rfl) Tryz.ntmps27 rfl rfl (fun Fr => ?_)
 refine T.seq fun K1 hK1 => ?_
 refine T.region (l := [0]) rfl ?_
 refine RN.a rfl ?_
 refine RN.nil ?_
 refine hK1 _ _ ?_
 refine T.seq fun K2 hK2 => ?_
 refine T.region (l := [0, 1, 2, 3, 4, 5, 6, 7, 8, 9, 10, 11, 12, 13, 14, 15, 16, 17, 18]) rfl ?_
 refine RN.m rfl ?_
 refine RN.p rfl (p_geq rfl rfl rfl) ?_
 refine RN.m rfl ?_
 refine RN.split_dec 9 rfl (fun h9 => ?_) (fun h9 => ?_)
 ·
  refine RN.m rfl ?_
  refine RN.m rfl ?_
  refine RN.p rfl (p_leq rfl rfl rfl) ?_
  refine RN.pt rfl ?_
  refine RN.m rfl ?_
  refine RN.split_dec 14 rfl (fun h14 => ?_) (fun h14 => ?_)
  ·
   refine RN.m rfl ?_
   refine RN.p rfl (p_geq rfl rfl rfl) ?_
   refine RN.pt rfl ?_
   refine RN.m rfl ?_
   refine RN.split_dec 18 rfl (fun h18 => ?_) (fun h18 => ?_)
   ·
    refine RN.m rfl ?_
    refine RN.m rfl ?_
    refine RN.m rfl ?_
    refine RN.p rfl (by exact (p_sub rfl rfl rfl (by omega))) ?_
    refine RN.p rfl (p_leq rfl rfl rfl) ?_
    refine RN.pt rfl ?_
    refine RN.a rfl ?_
    refine RN.nil ?_
    refine hK2 _ _ ?_
    refine T.ret ?_
    refine bodyQ_ret [] (RetRun.tmp RetRun.nil) ⟨congrArg Value.bool (by simp only [Right]; (simp [*]; done)), rfl⟩ (Ent.refl _)
   ·
    refine RN.no0 rfl ?_
    refine RN.no0 rfl ?_
    refine RN.no0 rfl ?_
    refine RN.no0 rfl ?_
    refine RN.no0 rfl ?_
    refine RN.pf rfl ?_
    refine RN.a rfl ?_
    refine RN.nil ?_
    refine hK2 _ _ ?_
    refine T.ret ?_
    refine bodyQ_ret [] (RetRun.tmp RetRun.nil) ⟨congrArg Value.bool (by simp only [Right]; (simp [*]; done)), rfl⟩ (Ent.refl _)
  ·
   refine RN.no0 rfl ?_
   refine RN.no0 rfl ?_
   refine RN.pf rfl ?_
   refine RN.m rfl ?_
   refine RN.no0 rfl ?_
   refine RN.no0 rfl ?_
   refine RN.no0 rfl ?_
   refine RN.no0 rfl ?_
   refine RN.no0 rfl ?_
   refine RN.pf rfl ?_
   refine RN.a rfl ?_
   refine RN.nil ?_
   refine hK2 _ _ ?_
   refine T.ret ?_
   refine bodyQ_ret [] (RetRun.tmp RetRun.nil) ⟨congrArg Value.bool (by simp only [Right]; (simp [*]; done)), rfl⟩ (Ent.refl _)
 ·
  refine RN.no0 rfl ?_
  refine RN.no0 rfl ?_
  refine RN.no0 rfl ?_
  refine RN.pf rfl ?_
  refine RN.m rfl ?_
  refine RN.no0 rfl ?_
  refine RN.no0 rfl ?_
  refine RN.pf rfl ?_
  refine RN.m rfl ?_
  refine RN.no0 rfl ?_
  refine RN.no0 rfl ?_
  refine RN.no0 rfl ?_
  refine RN.no0 rfl ?_
  refine RN.no0 rfl ?_
  refine RN.pf rfl ?_
  refine RN.a rfl ?_
  refine RN.nil ?_
  refine hK2 _ _ ?_
  refine T.ret ?_
  refine bodyQ_ret [] (RetRun.tmp RetRun.nil) ⟨congrArg Value.bool (by simp only [Right]; (simp [*]; done)), rfl⟩ (Ent.refl _)

theorem Write_spec (a p cap : Nat) (ds : List Sec) (rest : List Value) (lba n : Int) (data : List UInt8) (hok : ∀ x ∈ ds, x.ok) (hl : ds.length ≤ 512) : Ctr Tryz.prog 8 [ptr a 0, .int .i64 lba, .int .i64 n, strV data] [row a 63 [slc p 0 ds.length cap], row p 57 (ds.map Sec.hdr ++ rest), sep (ds.map (Sec.own 5))] (fun v Ps => v = .int .i64 (if Right ds.length lba n then 0 else 1) ∧ ∃ ds', (∀ x ∈ ds', x.ok) ∧ bytesOf ds' = (if Right ds.length lba n then wrK (bytesOf ds) lba.toNat data n.toNat else bytesOf ds) ∧ Ps = arrR 63 57 5 a p cap ds' rest) := by
 refine Ctr.of_body Tryz.func8 rfl (by kernel_rfl) Tryz.ntmps8 rfl rfl (fun Fr => ?_)
 refine T.seq fun K1 hK1 => ?_
 refine T.region (l := [0]) rfl ?_
 refine RN.a rfl ?_
 refine RN.nil ?_
 refine hK1 _ _ ?_
 refine T.seq fun K2 hK2 => ?_
 refine T.seq fun K3 hK3 => ?_
 refine T.region (l := [0, 1, 2, 3, 4]) rfl ?_
 refine RN.m rfl ?_
 refine RN.m rfl ?_
 refine RN.m rfl ?_
 refine RN.C [0] rfl rfl rfl rfl (c_call rfl rfl) (right_spec a lba n _ ds.length cap (by omega)) rfl ?_
 rintro _ _ ⟨rfl, rfl⟩
 refine RN.p rfl (by exact (p_not_dec rfl rfl)) ?_
 refine RN.nil ?_
 refine hK3 _ _ ?_
 refine T.cond_dec rfl (fun h15 => ?_) (fun h15 => ?_)
 ·
  have hR : ¬ Right ds.length lba n := h15
  refine T.seq fun K4 hK4 => ?_
  refine T.region (l := [0]) rfl ?_
  refine RN.a rfl ?_
  refine RN.nil ?_
  refine hK4 _ _ ?_
  refine T.ret ?_
  refine Post.seq_r ?_
  refine bodyQ_ret (arrR 63 57 5 a p cap ds rest) (RetRun.tmp RetRun.nil) ⟨congrArg (Value.int .i64) (if_neg hR).symm, ds, hok, (if_neg hR).symm, rfl⟩ (Ent.refl _)
 ·
  have hR : Right ds.length lba n := Classical.not_not.1 h15
  have hR2 := hR
  unfold Right at hR2
  refine T.skip ?_
  refine hK2 _ _ ?_
  refine T.seq fun K5 hK5 => ?_
  refine T.seq fun K6 hK6 => ?_
  refine T.region (l := [0, 1]) rfl ?_
  refine RN.m rfl ?_
  refine RN.m rfl ?_
  refine RN.nil ?_
  refine hK6 _ _ ?_
  refine T.block ?_
  refine T.loop (G := Nat × List Sec) (fun ⟨k, d2⟩ => (k : Int) ≤ n ∧ d2.length = ds.length ∧ (∀ x ∈ d2, x.ok) ∧ bytesOf d2 = wrK (bytesOf ds) lba.toNat data k) (fun ⟨k, d2⟩ => [(0, ptr a 0), (1, .int .i64 lba), (3, strV (data.drop (32 * k))), (16, .int .i64 n), (17, .int .i64 k)]) (fun ⟨k, d2⟩ => [row a 63 [slc p 0 d2.length cap], row p 57 (d2.map Sec.hdr ++ rest), sep (d2.map (Sec.own 5)), Fr]) (fun ⟨k, d2⟩ => (n - k).toNat) (0, ds) ⟨by simp; omega, rfl, hok, rfl⟩ (LiveIs.cons rfl (LiveIs.cons rfl (LiveIs.cons rfl (LiveIs.cons rfl (LiveIs.cons rfl LiveIs.nil))))) (Ent.refl _) ?_
  rintro ⟨k, d2⟩ e7 ⟨hk, hd2, hok2, hb2⟩
  dsimp only
  refine T.seq fun K8 hK8 => ?_
  refine T.region (l := [0]) rfl ?_
  refine RN.p rfl (p_lss rfl rfl rfl) ?_
  refine RN.nil ?_
  refine hK8 _ _ ?_
  refine T.seq fun K9 hK9 => ?_
  refine T.cond_dec rfl (fun h18 => ?_) (fun h18 => ?_)
  ·
   refine T.skip ?_
   refine hK9 _ _ ?_
   refine T.seq fun K10 hK10 => ?_
   refine T.block ?_
   refine T.seq fun K11 hK11 => ?_
   refine T.region (l := [0, 1]) rfl ?_
   refine RN.m rfl ?_
   refine RN.a rfl ?_
   refine RN.nil ?_
   refine hK11 _ _ ?_
   refine T.seq fun K12 hK12 => ?_
   refine T.region (l := [0, 1]) rfl ?_
   refine RN.E rfl rfl rfl rfl (by exact (e_makeSliceN (n := 32) (c := 32) rfl Tryz.underlying57 ti_5 rfl rfl rfl (by omega))) ?_
   rintro _ _ ⟨b20, rfl, rfl⟩
   refine RN.a rfl ?_
   refine RN.nil ?_
   refine hK12 _ _ ?_
   refine T.seq fun K13 hK13 => ?_
   refine T.region (l := [0, 1, 2, 3, 4, 5]) rfl ?_
   refine RN.m rfl ?_
   refine RN.m rfl ?_
   refine RN.m rfl ?_
   refine RN.E rfl rfl rfl rfl (by exact (e_copy rfl Tryz.underlying57 ts_5 rfl (i := 0) rfl (by simp [zeros]) src_str one_u8)) ?_
   rintro _ _ ⟨rfl, rfl⟩
   refine RN.p rfl (by exact (p_slice_s_lo rfl Tryz.underlying9 rfl rfl (by omega))) ?_
   refine RN.a rfl ?_
   refine RN.nil ?_
   refine hK13 _ _ ?_
   refine T.region (l := [0, 1, 2, 3, 4, 5, 6, 7, 8, 9]) rfl ?_
   refine RN.m rfl ?_
   refine RN.p rfl (p_nilCheck rfl rfl) ?_
   refine RN.p rfl (p_fieldAddr rfl fa_63_0 rfl) ?_
   refine RN.u rfl (by exact (q_load rfl sc_61 rfl (i := 1) rfl rfl)) ?_
   refine RN.m rfl ?_
   refine RN.m rfl ?_
   refine RN.p rfl (by exact (p_add rfl rfl rfl (by omega))) ?_
   refine RN.m rfl ?_
   refine RN.p rfl (by exact (p_indexAddr1 rfl Tryz.underlying61 ts_57 rfl rfl (by omega))) ?_
   refine RN.EN rfl rfl rfl (by exact (e_store rfl ts_57 rfl (by conv => lhs; whnf) (by rfl) (i := 2) rfl (by simp; omega))) ?_
   rintro _ _ ⟨rfl, rfl⟩
   refine RN.nil ?_
   refine hK10 _ _ ?_
   refine T.region (l := [0, 1]) rfl ?_
   refine RN.p rfl (by exact (p_addN (b := 1) rfl rfl rfl (by omega))) ?_
   refine RN.m rfl ?_
   refine RN.nil ?_
   refine ⟨(k + 1, d2.set (lba.toNat + k) ⟨b20, 32, pad32 (data.drop (32 * k)), []⟩), ⟨by simp; omega, by simpa using hd2, ok_set hok2 (pad32_length _), by rw [bytes_set, hb2]; rfl⟩, (by simp; omega), (LiveIs.cons rfl (LiveIs.cons rfl (LiveIs.cons ?_ (LiveIs.cons rfl (LiveIs.cons rfl LiveIs.nil))))), ?_⟩
   ·
    refine congrArg (fun l : List UInt8 => strV l) ?_
    rw [List.drop_drop]
    by_cases hlen : (data.drop (32 * k)).length ≤ 32
    · rw [List.drop_eq_nil_of_le (by simp at *; omega), List.drop_eq_nil_of_le (by simp at *; omega)]
    · rw [Nat.min_eq_right (by omega)]; rfl
   ·
    have e1 : (0 + (lba + k).toNat) = lba.toNat + k := by omega
    have hj : lba.toNat + k < d2.length := by omega
    have e2 : [row b20 5 (lay (zeros 32 [Value.int IntKind.u8 0]) 0 (((data.drop (32 * k)).map u8V).take (min (data.drop (32 * k)).length 32 * 1))), row a 63 [slc p 0 d2.length cap], row p 57 ((d2.map Sec.hdr ++ rest).set (0 + (lba + k).toNat) (slc b20 0 32 32)), sep (d2.map (Sec.own 5)), Fr] = [Sec.own 5 ⟨b20, 32, pad32 (data.drop (32 * k)), []⟩, row a 63 [slc p 0 d2.length cap], row p 57 ((d2.set (lba.toNat + k) ⟨b20, 32, pad32 (data.drop (32 * k)), []⟩).map Sec.hdr ++ rest), sep (d2.map (Sec.own 5)), Fr] := by
     rw [lay_pad, e1, ← set_hdr (d := ⟨b20, 32, pad32 (data.drop (32 * k)), []⟩) hj]
     simp [Sec.own, Sec.hdr]
    refine (Ent.of_eq (congrArg sep e2)).trans ?_
    refine (Ent.pull (is := [0, 2]) rfl).trans ((own_set hj).trans ((Ent.pull (is := [1, 1, 0]) rfl).trans (Ent.of_eq ?_)))
    simp [delN]
  ·
   refine T.exit ?_
   refine Post.seq_x ?_
   refine Post.seq_x ?_
   refine Post.block_hit ?_
   refine hK5 _ _ ?_
   refine T.seq fun K14 hK14 => ?_
   refine T.region (l := [0]) rfl ?_
   refine RN.a rfl ?_
   refine RN.nil ?_
   refine hK14 _ _ ?_
   refine T.ret ?_
   have hkn : (k : Int) = n := by omega
   subst hkn
   refine bodyQ_ret (arrR 63 57 5 a p cap d2 rest) (RetRun.tmp RetRun.nil) ⟨congrArg (Value.int .i64) (if_pos hR).symm, d2, hok2, by rw [hb2, if_pos hR]; simp, rfl⟩ (Ent.refl _)

theorem Trim_spec (a p cap : Nat) (ds : List Sec) (rest : List Value) (lba n : Int) (hok : ∀ x ∈ ds, x.ok) (hl : ds.length ≤ 512) : Ctr Tryz.prog 86 [ptr a 0, .int .i64 lba, .int .i64 n] [row a 63 [slc p 0 ds.length cap], row p 57 (ds.map Sec.hdr ++ rest), sep (ds.map (Sec.own 5))] (fun v Ps => v = .int .i64 (if Right ds.length lba n then 0 else 1) ∧ ∃ ds', (∀ x ∈ ds', x.ok) ∧ bytesOf ds' = (if Right ds.length lba n then wrK (bytesOf ds) lba.toNat [] n.toNat else bytesOf ds) ∧ Ps = arrR 63 57 5 a p cap ds' rest) := by
 refine Ctr.of_body Tryz.func86 rfl (by kernel_rfl) Tryz.ntmps86 rfl rfl (fun Fr => ?_)
 refine T.seq fun K1 hK1 => ?_
 refine T.region (l := [0]) rfl ?_
 refine RN.a rfl ?_
 refine RN.nil ?_
 refine hK1 _ _ ?_
 refine T.seq fun K2 hK2 => ?_
 refine T.region (l := [0, 1, 2, 3, 4]) rfl ?_
 refine RN.m rfl ?_
 refine RN.m rfl ?_
 refine RN.m rfl ?_
 refine RN.C [0, 0, 0] rfl rfl rfl rfl (c_call rfl rfl) (Write_spec a p cap ds rest lba n [] hok hl) rfl ?_
 rintro _ _ ⟨rfl, ds2, hok2, hb2, rfl⟩
 refine RN.a rfl ?_
 refine RN.nil ?_
 refine hK2 _ _ ?_
 refine T.ret ?_
 refine bodyQ_ret (arrR 63 57 5 a p cap ds2 rest) (RetRun.tmp RetRun.nil) ⟨rfl, ds2, hok2, hb2, rfl⟩ (Ent.refl _)

end Go.Proofs.YtbbgajjonodlfaaGreat
namespace Go.Proofs.YtbbgajjonodlfaaGreat
open Go Go.Sl Go.Proofs
set_option maxRecDepth 20000
open Go.Mo
theorem Join_spec (p off c : Nat) (ds : List Sec) (cells : List Value) (hok : ∀ x ∈ ds, x.ok) (h1 : 1 ≤ ds.length ∧ ds.length ≤ 512) (hlc : ds.length ≤ c) (hc : ∀ i (h : i < ds.length), cells[off + i]? = some ds[i].hdr) : Ctr Tryz.prog 42 [slc p off ds.length c, .slice none 0 0] [row p 57 cells, sep (ds.map (Sec.own 5))] (fun v Ps => ∃ b cap rest, v = slc b 0 (32 * ds.length) cap ∧ Ps = [row b 5 ((cat ds).map u8V ++ rest), row p 57 cells, sep (ds.map (Sec.own 5))]) := by
 refine Ctr.of_body Tryz.func42 rfl (by kernel_rfl) Tryz.ntmps42 rfl rfl (fun Fr => ?_)
 refine T.seq fun K1 hK1 => ?_
 refine T.region (l := [0]) rfl ?_
 refine RN.a rfl ?_
 refine RN.nil ?_
 refine hK1 _ _ ?_
 refine T.seq fun K2 hK2 => ?_
 refine T.seq fun K3 hK3 => ?_
 refine T.region (l := [0, 1, 2]) rfl ?_
 refine RN.m rfl ?_
 refine RN.p rfl (p_len rfl Tryz.underlying61 rfl) ?_
 refine RN.p rfl (p_eql rfl rfl rfl) ?_
 refine RN.nil ?_
 refine hK3 _ _ ?_
 refine T.cond_dec rfl (fun h14 => ?_) (fun h14 => ?_)
 ·
  omega --done
 ·
  refine T.skip ?_
  refine hK2 _ _ ?_
  refine T.seq fun K4 hK4 => ?_
  refine T.seq fun K5 hK5 => ?_
  refine T.region (l := [0, 1, 2]) rfl ?_
  refine RN.m rfl ?_
  refine RN.p rfl (p_len rfl Tryz.underlying61 rfl) ?_
  refine RN.p rfl (p_eql rfl rfl rfl) ?_
  refine RN.nil ?_
  refine hK5 _ _ ?_
  refine T.cond_dec rfl (fun h18 => ?_) (fun h18 => ?_)
  ·
   have h0 : 0 < ds.length := by omega
   have hd1 : ds.length = 1 := by omega
   have hc0 := hc 0 h0
   refine T.seq fun K6 hK6 => ?_
   refine T.region (l := [0, 1, 2, 3, 4]) rfl ?_
   refine RN.m rfl ?_
   refine RN.p rfl (by exact (p_indexAddr1N (i := 0) rfl Tryz.underlying61 ts_57 rfl rfl (by omega))) ?_
   refine RN.u rfl (q_load rfl sc_57 rfl (i := 0) rfl (by simpa using hc0)) ?_
   refine RN.ent (((Ent.pull (is := [1]) rfl).trans (Ent.bor (own_nth h0))).trans (Ent.vec_nil' (el := 5) (sz := 1))) ?_
   refine RN.E rfl rfl rfl rfl (e_append rfl Tryz.underlying57 ni_57 ti_5 rfl rfl (i := 0) rfl (Sec.src (i := 1) rfl (ok_get hok h0)) one_u8 (by omega)) ?_
   rintro v22 _ ⟨hv22, rfl⟩
   refine RN.openVec 0 rfl (by omega) ?_
   rintro b22 cap22 rest22 rfl hcap1 hcap2 hcl
   refine RN.a rfl ?_
   refine RN.nil ?_
   refine hK6 _ _ ?_
   refine T.ret ?_
   refine Post.seq_r ?_
   have hcat := cat_length hok
   have hz : cat ds = ds[0].s := by
    have := cat_take (ds := ds) (k := 0) (by omega)
    rw [List.take_of_length_le (by omega)] at this
    rw [this]; simp [cat]
   rw [show 0 + 32 = 32 * ds.length from by omega]
   refine bodyQ_ret [row b22 5 ((cat ds).map u8V ++ rest22), row p 57 cells, sep (ds.map (Sec.own 5))] (RetRun.tmp RetRun.nil) ⟨b22, cap22, rest22, rfl, rfl⟩ ?_
   rw [hz]
   refine Ent.trans ?_ (Ent.pull (is := [0, 1, 0]) (L := [row b22 5 (ds[0].s.map u8V ++ rest22), sep (ds.map (Sec.own 5)), row p 57 cells, Fr]) rfl)
   refine Ent.cons (Ent.of_eq (by simp)) ?_
   exact own_back (by omega)
  ·
   refine T.skip ?_
   refine hK4 _ _ ?_
   refine T.seq fun K7 hK7 => ?_
   refine T.region (l := [0]) rfl ?_
   refine RN.a rfl ?_
   refine RN.nil ?_
   refine hK7 _ _ ?_
   refine T.seq fun K8 hK8 => ?_
   refine T.seq fun K9 hK9 => ?_
   refine T.region (l := [0, 1, 2]) rfl ?_
   refine RN.m rfl ?_
   refine RN.p rfl (p_len rfl Tryz.underlying57 rfl) ?_
   refine RN.p rfl (p_gtr rfl rfl rfl) ?_
   refine RN.nil ?_
   refine hK9 _ _ ?_
   refine T.cond_dec rfl (fun h25 => ?_) (fun h25 => ?_)
   ·
    omega --done
   ·
    refine T.skip ?_
    refine hK8 _ _ ?_
    refine T.seq fun K10 hK10 => ?_
    refine T.seq fun K11 hK11 => ?_
    refine T.region (l := [0, 1, 2]) rfl ?_
    refine RN.m rfl ?_
    refine RN.p rfl (p_len rfl Tryz.underlying61 rfl) ?_
    refine RN.m rfl ?_
    refine RN.nil ?_
    refine hK11 _ _ ?_
    refine T.block ?_
    refine T.loop (G := Nat) (fun k => k ≤ ds.length) (fun k => [(0, slc p off ds.length c), (1, .slice none 0 0), (5, .int .i64 (32 * k : Nat)), (42, slc p off ds.length c), (43, .int .i64 ds.length), (44, .int .i64 k)]) (fun k => [row p 57 cells, sep (ds.map (Sec.own 5)), Fr]) (fun k => ds.length - k) 0 (by omega) (LiveIs.cons rfl (LiveIs.cons rfl (LiveIs.cons rfl (LiveIs.cons rfl (LiveIs.cons rfl (LiveIs.cons rfl LiveIs.nil)))))) (Ent.refl _) ?_
    rintro k e12 hk
    refine T.seq fun K13 hK13 => ?_
    refine T.region (l := [0]) rfl ?_
    refine RN.p rfl (p_lss rfl rfl rfl) ?_
    refine RN.nil ?_
    refine hK13 _ _ ?_
    refine T.seq fun K14 hK14 => ?_
    refine T.cond_dec rfl (fun h45 => ?_) (fun h45 => ?_)
    ·
     refine T.skip ?_
     refine hK14 _ _ ?_
     refine T.seq fun K15 hK15 => ?_
     refine T.block ?_
     refine T.seq fun K16 hK16 => ?_
     refine T.region (l := [0, 1, 2]) rfl ?_
     refine RN.p rfl (by exact (p_indexAddr1N rfl Tryz.underlying61 ts_57 rfl rfl (by omega))) ?_
     refine RN.u rfl (q_load rfl sc_57 rfl (i := 0) rfl (hc _ (by omega))) ?_
     refine RN.a rfl ?_
     refine RN.nil ?_
     refine hK16 _ _ ?_
     refine T.seq fun K17 hK17 => ?_
     refine T.seq fun K18 hK18 => ?_
     refine T.region (l := [0, 1, 2, 3, 4]) rfl ?_
     refine RN.m rfl ?_
     refine RN.p rfl (p_len rfl Tryz.underlying57 rfl) ?_
     refine RN.m rfl ?_
     refine RN.p rfl (by exact (p_subN (a := 9223372036854775807) rfl rfl rfl (by omega))) ?_
     refine RN.p rfl (p_gtr rfl rfl rfl) ?_
     refine RN.nil ?_
     refine hK18 _ _ ?_
     refine T.cond_dec rfl (fun h52 => ?_) (fun h52 => ?_)
     ·
      omega --done
     ·
      refine T.skip ?_
      refine hK17 _ _ ?_
      refine T.region (l := [0, 1, 2, 3, 4]) rfl ?_
      refine RN.m rfl ?_
      refine RN.m rfl ?_
      refine RN.p rfl (p_len rfl Tryz.underlying57 rfl) ?_
      refine RN.p rfl (by exact (p_addN rfl rfl rfl (by omega))) ?_
      refine RN.a rfl ?_
      refine RN.nil ?_
      refine hK15 _ _ ?_
      refine T.region (l := [0, 1]) rfl ?_
      refine RN.p rfl (by exact (p_addN (b := 1) rfl rfl rfl (by omega))) ?_
      refine RN.m rfl ?_
      refine RN.nil ?_
      refine ⟨k + 1, (by omega), (by omega), (LiveIs.cons rfl (LiveIs.cons rfl (LiveIs.cons (congrArg (Value.int .i64) (by simp; omega)) (LiveIs.cons rfl (LiveIs.cons rfl (LiveIs.cons rfl LiveIs.nil)))))), Ent.refl _⟩
    ·
     obtain rfl : k = ds.length := by omega
     refine T.exit ?_
     refine Post.seq_x ?_
     refine Post.seq_x ?_
     refine Post.block_hit ?_
     refine hK10 _ _ ?_
     refine T.seq fun K19 hK19 => ?_
     refine T.region (l := [0, 1, 2, 3, 4, 5]) rfl ?_
     refine RN.m rfl ?_
     refine RN.E rfl rfl rfl rfl (e_makeNoZero (n := 32 * ds.length) (ps := #[3]) (t := 57) rfl Tryz.func59 (by kernel_rfl) rfl (by kernel_rfl) (by kernel_rfl) rfl Tryz.underlying57 (by omega)) ?_
     rintro _ _ ⟨b60, cs60, hn60, hm60, rfl, rfl⟩
     refine RN.m rfl ?_
     refine RN.m rfl ?_
     refine RN.p rfl (p_slice3 rfl Tryz.underlying57 ts_5 rfl rfl rfl (by omega)) ?_
     refine RN.a rfl ?_
     refine RN.nil ?_
     refine hK19 _ _ ?_
     refine T.seq fun K20 hK20 => ?_
     refine T.region (l := [0, 1, 2, 3, 4, 5]) rfl ?_
     refine RN.m rfl ?_
     refine RN.m rfl ?_
     refine RN.p rfl (by exact (p_indexAddr1N (i := 0) rfl Tryz.underlying61 ts_57 rfl rfl (by omega))) ?_
     refine RN.u rfl (q_load rfl sc_57 rfl (i := 1) rfl (hc 0 (by omega))) ?_
     refine RN.E rfl rfl rfl rfl (e_copy rfl Tryz.underlying57 ts_5 rfl (i := 0) rfl (by simp; omega) (Sec.srcIn (i := 2) (j := 0) rfl hok (by omega)) one_u8) ?_
     rintro _ _ ⟨rfl, rfl⟩
     refine RN.a rfl ?_
     refine RN.nil ?_
     refine hK20 _ _ ?_
     refine T.seq fun K21 hK21 => ?_
     refine T.seq fun K22 hK22 => ?_
     refine T.region (l := [0, 1, 2, 3]) rfl ?_
     refine RN.m rfl ?_
     refine RN.p rfl (by exact (p_slice_lo (l := 1) rfl Tryz.underlying61 ts_57 rfl rfl (by omega))) ?_
     refine RN.p rfl (p_len rfl Tryz.underlying61 rfl) ?_
     refine RN.m rfl ?_
     refine RN.nil ?_
     refine hK22 _ _ ?_
     refine T.block ?_
     refine T.loop (G := Nat × List Value) (fun ⟨k, cs⟩ => k + 1 ≤ ds.length ∧ cs.length = cs60.length ∧ cs.take (32 * (k + 1)) = (cat (ds.take (k + 1))).map u8V) (fun ⟨k, cs⟩ => [(1, .slice none 0 0), (8, slc b60 0 (32 * ds.length) (32 * ds.length)), (9, .int .i64 (32 * (k + 1) : Nat)), (70, slc p (off + 1) (ds.length - 1) (c - 1)), (71, .int .i64 (ds.length - 1 : Nat)), (72, .int .i64 k)]) (fun ⟨k, cs⟩ => [row b60 5 cs, row p 57 cells, sep (ds.map (Sec.own 5)), Fr]) (fun ⟨k, cs⟩ => ds.length - k) (0, lay cs60 0 (ds[0].s.map u8V)) ?_ (LiveIs.cons rfl (LiveIs.cons rfl (LiveIs.cons ?_ (LiveIs.cons rfl (LiveIs.cons rfl (LiveIs.cons rfl LiveIs.nil)))))) ?_ ?_
     ·
      have hs0 : ds[0].s.length = 32 := ok_get hok (by omega)
      refine ⟨by omega, lay_length _ _ _, ?_⟩
      have := lay_take (cs := cs60) (A := []) (B := ds[0].s.map u8V) (a := 0) rfl rfl (by simp [hs0]; omega)
      simp only [List.length_map, hs0, List.nil_append, Nat.zero_add] at this
      have hz : (cat (ds.take (0 + 1))) = ds[0].s := by rw [cat_take (by omega)]; simp [cat]
      rw [hz]
      exact this
     · exact congrArg (Value.int .i64) (by simp; omega)
     ·
      have hs0 : ds[0].s.length = 32 := ok_get hok (by omega)
      refine Ent.of_eq ?_
      simp only [setN]
      rw [List.take_of_length_le (by simp [hs0]; omega)]
     rintro ⟨k, cs⟩ e23 ⟨hk, hl, hcs⟩
     dsimp only
     refine T.seq fun K24 hK24 => ?_
     refine T.region (l := [0]) rfl ?_
     refine RN.p rfl (p_lss rfl rfl rfl) ?_
     refine RN.nil ?_
     refine hK24 _ _ ?_
     refine T.seq fun K25 hK25 => ?_
     refine T.cond_dec rfl (fun h73 => ?_) (fun h73 => ?_)
     ·
      refine T.skip ?_
      refine hK25 _ _ ?_
      refine T.seq fun K26 hK26 => ?_
      refine T.block ?_
      refine T.seq fun K27 hK27 => ?_
      refine T.region (l := [0, 1, 2]) rfl ?_
      refine RN.p rfl (by exact (p_indexAddr1N rfl Tryz.underlying61 ts_57 rfl rfl (by omega))) ?_
      refine RN.u rfl (q_load rfl sc_57 rfl (i := 1) rfl (by rw [Nat.add_assoc, Nat.add_comm 1]; exact hc (k + 1) (by omega))) ?_
      refine RN.a rfl ?_
      refine RN.nil ?_
      refine hK27 _ _ ?_
      refine T.seq fun K28 hK28 => ?_
      refine T.region (l := [0, 1, 2, 3, 4, 5, 6, 7]) rfl ?_
      refine RN.m rfl ?_
      refine RN.m rfl ?_
      refine RN.m rfl ?_
      refine RN.p rfl (by exact (p_slice_lo rfl Tryz.underlying57 ts_5 rfl rfl (by omega))) ?_
      refine RN.m rfl ?_
      refine RN.E rfl rfl rfl rfl (e_copy rfl Tryz.underlying57 ts_5 rfl (i := 0) rfl (by simp; omega) src_nil (by simp)) ?_
      rintro _ _ ⟨rfl, rfl⟩
      simp only [setN, List.take_nil, lay]
      refine RN.p rfl (by exact (p_addN rfl rfl rfl (by omega))) ?_
      refine RN.a rfl ?_
      refine RN.nil ?_
      refine hK28 _ _ ?_
      refine T.region (l := [0, 1, 2, 3, 4, 5, 6, 7]) rfl ?_
      refine RN.m rfl ?_
      refine RN.m rfl ?_
      refine RN.m rfl ?_
      refine RN.p rfl (by exact (p_slice_lo rfl Tryz.underlying57 ts_5 rfl rfl (by omega))) ?_
      refine RN.m rfl ?_
      refine RN.E rfl rfl rfl rfl (e_copy rfl Tryz.underlying57 ts_5 rfl (i := 0) rfl (by simp; omega) (Sec.srcIn (i := 2) (j := k + 1) rfl hok (by omega)) one_u8) ?_
      rintro _ _ ⟨rfl, rfl⟩
      refine RN.p rfl (by exact (p_addN rfl rfl rfl (by omega))) ?_
      refine RN.a rfl ?_
      refine RN.nil ?_
      refine hK26 _ _ ?_
      refine T.region (l := [0, 1]) rfl ?_
      refine RN.p rfl (by exact (p_addN (b := 1) rfl rfl rfl (by omega))) ?_
      refine RN.m rfl ?_
      refine RN.nil ?_
      refine ⟨(k + 1, lay cs (32 * (k + 1)) (ds[k + 1].s.map u8V)), ?_, (by simp; omega), (LiveIs.cons rfl (LiveIs.cons rfl (LiveIs.cons ?_ (LiveIs.cons rfl (LiveIs.cons rfl (LiveIs.cons rfl LiveIs.nil)))))), ?_⟩
      ·
       have hs0 : ds[k + 1].s.length = 32 := ok_get hok (by omega)
       refine ⟨by simp; omega, by rw [lay_length]; exact hl, ?_⟩
       have := lay_take (B := ds[k + 1].s.map u8V) hcs (by rw [List.length_map, cat_length (fun x hx => hok x (List.mem_of_mem_take hx)), List.length_take]; omega) (by simp [hs0]; omega)
       simp only [List.length_map, hs0] at this
       rw [cat_take (by omega), List.map_append, ← this]
       rfl
      ·
       have hs0 : ds[k + 1].s.length = 32 := ok_get hok (by omega)
       exact congrArg (Value.int .i64) (by simp; omega)
      ·
       have hs0 : ds[k + 1].s.length = 32 := ok_get hok (by omega)
       refine Ent.of_eq ?_
       simp only [setN]
       rw [List.take_of_length_le (l := ds[k + 1].s.map u8V) (by simp [hs0]; omega)]
       simp
     ·
      have hkk : k + 1 = ds.length := by omega
      refine T.exit ?_
      refine Post.seq_x ?_
      refine Post.seq_x ?_
      refine Post.block_hit ?_
      refine hK21 _ _ ?_
      refine T.seq fun K29 hK29 => ?_
      refine T.region (l := [0, 1]) rfl ?_
      refine RN.m rfl ?_
      refine RN.a rfl ?_
      refine RN.nil ?_
      refine hK29 _ _ ?_
      refine T.ret ?_
      have hcat := cat_length hok
      rw [hkk, List.take_of_length_le (Nat.le_refl _)] at hcs
      refine bodyQ_ret [row b60 5 ((cat ds).map u8V ++ cs.drop (32 * ds.length)), row p 57 cells, sep (ds.map (Sec.own 5))] (RetRun.tmp RetRun.nil) ⟨b60, _, _, rfl, rfl⟩ ?_
      rw [← hcs, List.take_append_drop]
      exact Ent.refl _

end Go.Proofs.YtbbgajjonodlfaaGreat
namespace Go.Proofs.YtbbgajjonodlfaaGreat
open Go Go.Sl Go.Proofs
set_option maxRecDepth 20000
open Go.Mo
theorem Read_spec (a p cap : Nat) (ds : List Sec) (rest : List Value) (lba n : Int) (hok : ∀ x ∈ ds, x.ok) (hl : ds.length ≤ 512) (hcap : ds.length ≤ cap) : Ctr Tryz.prog 85 [ptr a 0, .int .i64 lba, .int .i64 n] [row a 63 [slc p 0 ds.length cap], row p 57 (ds.map Sec.hdr ++ rest), sep (ds.map (Sec.own 5))] (fun v Ps => v = .tuple #[strV (if Right ds.length lba n then cat ((ds.drop lba.toNat).take n.toNat) else []), .int .i64 (if Right ds.length lba n then 0 else 1)] ∧ Ps = arrR 63 57 5 a p cap ds rest) := by
 refine Ctr.of_body Tryz.func85 rfl (by kernel_rfl) Tryz.ntmps85 rfl rfl (fun Fr => ?_)
 refine T.seq fun K1 hK1 => ?_
 refine T.region (l := [0, 1]) rfl ?_
 refine RN.a rfl ?_
 refine RN.a rfl ?_
 refine RN.nil ?_
 refine hK1 _ _ ?_
 refine T.seq fun K2 hK2 => ?_
 refine T.seq fun K3 hK3 => ?_
 refine T.region (l := [0, 1, 2, 3, 4]) rfl ?_
 refine RN.m rfl ?_
 refine RN.m rfl ?_
 refine RN.m rfl ?_
 refine RN.C [0] rfl rfl rfl rfl (c_call rfl rfl) (right_spec a lba n _ ds.length cap (by omega)) rfl ?_
 rintro _ _ ⟨rfl, rfl⟩
 refine RN.p rfl (by exact (p_not_dec rfl rfl)) ?_
 refine RN.nil ?_
 refine hK3 _ _ ?_
 refine T.cond_dec rfl (fun h12 => ?_) (fun h12 => ?_)
 ·
  have hR : ¬ Right ds.length lba n := h12
  refine T.seq fun K4 hK4 => ?_
  refine T.region (l := [0, 1]) rfl ?_
  refine RN.a rfl ?_
  refine RN.a rfl ?_
  refine RN.nil ?_
  refine hK4 _ _ ?_
  refine T.ret ?_
  refine Post.seq_r ?_
  refine bodyQ_ret (arrR 63 57 5 a p cap ds rest) (RetRun.tmp (RetRun.tmp RetRun.nil)) ⟨by rw [if_neg hR, if_neg hR]; rfl, rfl⟩ (Ent.refl _)
 ·
  have hR : Right ds.length lba n := Classical.not_not.1 h12
  have hR2 := hR
  unfold Right at hR2
  obtain ⟨lb, rfl⟩ := Int.eq_ofNat_of_zero_le hR2.2.2.1
  obtain ⟨nn, rfl⟩ := Int.eq_ofNat_of_zero_le (show 0 ≤ n by omega)
  have hlen : ((ds.drop lb).take nn).length = nn := by simp; omega
  have hmid := mid_eq ds lb nn
  have hcatl := cat_length (ds := (ds.drop lb).take nn) (fun x hx => hok x (List.mem_of_mem_drop (List.mem_of_mem_take hx)))
  refine T.skip ?_
  refine hK2 _ _ ?_
  refine T.seq fun K5 hK5 => ?_
  refine T.region (l := [0, 1, 2, 3, 4, 5, 6, 7, 8, 9, 10, 11, 12]) rfl ?_
  refine RN.m rfl ?_
  refine RN.p rfl (p_nilCheck rfl rfl) ?_
  refine RN.p rfl (p_fieldAddr rfl fa_63_0 rfl) ?_
  refine RN.u rfl (by exact (q_load rfl sc_61 rfl (i := 0) rfl rfl)) ?_
  refine RN.m rfl ?_
  refine RN.m rfl ?_
  refine RN.m rfl ?_
  refine RN.p rfl (by exact (p_addN rfl rfl rfl (by omega))) ?_
  refine RN.p rfl (by exact (p_slice_lh rfl Tryz.underlying61 ts_57 rfl rfl rfl (by omega))) ?_
  refine RN.ent (Hs' := [row a 63 [slc p 0 ds.length cap], row p 57 (ds.map Sec.hdr ++ rest), sep (((ds.drop lb).take nn).map (Sec.own 5)), sep ((ds.take lb ++ ds.drop (lb + nn)).map (Sec.own 5)), Fr]) ?_ ?_
  ·
   refine Ent.cons (Ent.refl _) (Ent.cons (Ent.refl _) ?_)
   have := own_mid (TB := 5) (A := ds.take lb) (B := (ds.drop lb).take nn) (C := ds.drop (lb + nn)) (R := [Fr])
   rwa [← hmid] at this
  have hs21 : slc p (0 + lb * 1) (lb + nn - lb) (cap - lb) = slc p (0 + lb) ((ds.drop lb).take nn).length (cap - lb) := by rw [hlen, Nat.mul_one, Nat.add_sub_cancel_left]
  refine RN.known 21 rfl hs21 ?_
  refine RN.C [1, 1] rfl rfl rfl rfl (c_call rfl rfl) (Join_spec p (0 + lb) (cap - lb) ((ds.drop lb).take nn) (ds.map Sec.hdr ++ rest) (fun x hx => hok x (List.mem_of_mem_drop (List.mem_of_mem_take hx))) (by rw [hlen]; omega) (by rw [hlen]; omega) (by intro i h; simp only [List.length_take, List.length_drop] at h; rw [Nat.zero_add, List.getElem?_append_left (by simp; omega)]; simp [show lb + i < ds.length from by omega])) rfl ?_
  rintro _ _ ⟨b22, cap22, rest22, rfl, rfl⟩
  refine RN.u rfl (q_bytes_str rfl Tryz.underlying57 Tryz.underlying5 Tryz.underlying9 rfl (i := 0) rfl (by simp [hcatl]) (by rw [List.drop_zero, List.take_left' (by rw [List.length_map, hcatl])])) ?_
  refine RN.a rfl ?_
  refine RN.a rfl ?_
  refine RN.nil ?_
  refine hK5 _ _ ?_
  refine T.ret ?_
  refine bodyQ_ret (arrR 63 57 5 a p cap ds rest) (RetRun.tmp (RetRun.tmp RetRun.nil)) ⟨by rw [if_pos hR, if_pos hR]; rfl, rfl⟩ ?_
  refine Ent.trans (Ent.pull (is := [3, 1]) rfl) ?_
  refine Ent.cons (Ent.refl _) (Ent.cons (Ent.refl _) ?_)
  have := own_unmid (TB := 5) (A := ds.take lb) (B := (ds.drop lb).take nn) (C := ds.drop (lb + nn)) (R := [Fr])
  rw [← hmid] at this
  refine Ent.trans ?_ this
  exact Ent.pull_drop (is := [1, 1, 1]) rfl

theorem Content_spec (a p cap : Nat) (ds : List Sec) (rest : List Value) (hok : ∀ x ∈ ds, x.ok) (hl : 1 ≤ ds.length ∧ ds.length ≤ 512) (hcap : ds.length ≤ cap) : Ctr Tryz.prog 16 [ptr a 0] [row a 63 [slc p 0 ds.length cap], row p 57 (ds.map Sec.hdr ++ rest), sep (ds.map (Sec.own 5))] (fun v Ps => v = strV (cat ds) ∧ Ps = arrR 63 57 5 a p cap ds rest) := by
 refine Ctr.of_body Tryz.func16 rfl (by kernel_rfl) Tryz.ntmps16 rfl rfl (fun Fr => ?_)
 refine T.seq fun K1 hK1 => ?_
 refine T.region (l := [0]) rfl ?_
 refine RN.a rfl ?_
 refine RN.nil ?_
 refine hK1 _ _ ?_
 refine T.seq fun K2 hK2 => ?_
 refine T.region (l := [0, 1, 2, 3, 4, 5, 6]) rfl ?_
 refine RN.m rfl ?_
 refine RN.p rfl (p_nilCheck rfl rfl) ?_
 refine RN.p rfl (p_fieldAddr rfl fa_63_0 rfl) ?_
 refine RN.u rfl (by exact (q_load rfl sc_61 rfl (i := 0) rfl rfl)) ?_
 refine RN.C [1, 1] rfl rfl rfl rfl (c_call rfl rfl) (Join_spec p 0 cap ds (ds.map Sec.hdr ++ rest) hok hl hcap (by intro i h; rw [Nat.zero_add, List.getElem?_append_left (by simpa using h)]; simp [h])) rfl ?_
 rintro _ _ ⟨b22, cap22, rest22, rfl, rfl⟩
 refine RN.u rfl (q_bytes_str rfl Tryz.underlying57 Tryz.underlying5 Tryz.underlying9 rfl (i := 0) rfl (by simp [cat_length hok]) (by rw [List.drop_zero, List.take_left' (by rw [List.length_map, cat_length hok])])) ?_
 refine RN.a rfl ?_
 refine RN.nil ?_
 refine hK2 _ _ ?_
 refine T.ret ?_
 refine bodyQ_ret (arrR 63 57 5 a p cap ds rest) (RetRun.tmp RetRun.nil) ⟨rfl, rfl⟩ (Ent.pull_drop (is := [3, 1, 1, 1]) rfl)

end Go.Proofs.YtbbgajjonodlfaaGreat
namespace Go.Proofs.YtbbgajjonodlfaaGreat
open Go Go.Sl Go.Proofs
set_option maxRecDepth 20000
open Go.Mo
def NewQ (n : Int) : Value → List Assn → Prop := fun v Ps => (if 1 ≤ n ∧ n ≤ 512 then ∃ a p cap ds rest, v = .tuple #[ptr a 0, .int .i64 0] ∧ (ds.length : Int) = n ∧ (∀ x ∈ ds, x.ok) ∧ bytesOf ds = List.replicate n.toNat (z32) ∧ ds.length ≤ cap ∧ Ps = arrR 63 57 5 a p cap ds rest else v = .tuple #[.pointer none, .int .i64 1] ∧ Ps = [])
theorem NewQ_yes {n : Int} {v : Value} {Ps : List Assn} (h : NewQ n v Ps) (hn : 1 ≤ n ∧ n ≤ 512) : ∃ a p cap ds rest, v = .tuple #[ptr a 0, .int .i64 0] ∧ (ds.length : Int) = n ∧ (∀ x ∈ ds, x.ok) ∧ bytesOf ds = List.replicate n.toNat (z32) ∧ ds.length ≤ cap ∧ Ps = arrR 63 57 5 a p cap ds rest := by
 unfold NewQ at h; rwa [if_pos hn] at h
theorem NewQ_no {n : Int} {v : Value} {Ps : List Assn} (h : NewQ n v Ps) (hn : ¬ (1 ≤ n ∧ n ≤ 512)) : v = .tuple #[.pointer none, .int .i64 1] ∧ Ps = [] := by
 unfold NewQ at h; rwa [if_neg hn] at h

theorem New_spec (n : Int) : Ctr Tryz.prog 7 [.int .i64 n] [] (NewQ n) := by
 refine Ctr.of_body Tryz.func7 rfl (by kernel_rfl) Tryz.ntmps7 rfl rfl (fun Fr => ?_)
 refine T.seq fun K1 hK1 => ?_
 refine T.region (l := [0, 1]) rfl ?_
 refine RN.a rfl ?_
 refine RN.a rfl ?_
 refine RN.nil ?_
 refine hK1 _ _ ?_
 refine T.seq fun K2 hK2 => ?_
 refine T.seq fun K3 hK3 => ?_
 refine T.region (l := [0, 1, 2, 3, 4, 5]) rfl ?_
 refine RN.m rfl ?_
 refine RN.p rfl (p_lss rfl rfl rfl) ?_
 refine RN.m rfl ?_
 refine RN.split_dec 7 rfl (fun h7 => ?_) (fun h7 => ?_)
 ·
  refine RN.no0 rfl ?_
  refine RN.no0 rfl ?_
  refine RN.pt rfl ?_
  refine RN.nil ?_
  refine hK3 _ _ ?_
  refine T.cond_t rfl ?_
  refine T.seq fun K4 hK4 => ?_
  refine T.region (l := [0, 1]) rfl ?_
  refine RN.a rfl ?_
  refine RN.a rfl ?_
  refine RN.nil ?_
  refine hK4 _ _ ?_
  refine T.ret ?_
  refine Post.seq_r ?_
  refine bodyQ_ret [] (RetRun.tmp (RetRun.tmp RetRun.nil)) (by unfold NewQ; rw [if_neg (by omega)]; exact ⟨rfl, rfl⟩) (Ent.refl _)
 ·
  refine RN.m rfl ?_
  refine RN.p rfl (p_gtr rfl rfl rfl) ?_
  refine RN.pf rfl ?_
  refine RN.nil ?_
  refine hK3 _ _ ?_
  refine T.cond_dec rfl (fun h10 => ?_) (fun h10 => ?_)
  ·
   refine T.seq fun K5 hK5 => ?_
   refine T.region (l := [0, 1]) rfl ?_
   refine RN.a rfl ?_
   refine RN.a rfl ?_
   refine RN.nil ?_
   refine hK5 _ _ ?_
   refine T.ret ?_
   refine Post.seq_r ?_
   refine bodyQ_ret [] (RetRun.tmp (RetRun.tmp RetRun.nil)) (by unfold NewQ; rw [if_neg (by omega)]; exact ⟨rfl, rfl⟩) (Ent.refl _)
  ·
   obtain ⟨nn, rfl⟩ := Int.eq_ofNat_of_zero_le (show 0 ≤ n by omega)
   refine T.skip ?_
   refine hK2 _ _ ?_
   refine T.seq fun K6 hK6 => ?_
   refine T.region (l := [0, 1, 2]) rfl ?_
   refine RN.p rfl (p_build rfl pl_63 ti_63 rfl) ?_
   refine RN.E rfl rfl rfl rfl (e_box rfl rfl rfl) ?_
   rintro _ _ ⟨b12, rfl, rfl⟩
   refine RN.ent (Ent.cons (Ent.refl _) (Ent.vec_nil' (el := 57) (sz := 1))) ?_
   refine RN.a rfl ?_
   refine RN.nil ?_
   refine hK6 _ _ ?_
   refine T.seq fun K7 hK7 => ?_
   refine T.seq fun K8 hK8 => ?_
   refine T.region (l := [0, 1]) rfl ?_
   refine RN.m rfl ?_
   refine RN.m rfl ?_
   refine RN.nil ?_
   refine hK8 _ _ ?_
   refine T.block ?_
   refine T.loop (G := Nat × Value × List Sec) (fun ⟨k, v, ds⟩ => k ≤ nn ∧ ds.length = k ∧ (∀ x ∈ ds, x.ok) ∧ bytesOf ds = List.replicate k (z32)) (fun ⟨k, v, ds⟩ => [(4, ptr b12 0), (13, .int .i64 nn), (14, .int .i64 k)]) (fun ⟨k, v, ds⟩ => [row b12 63 [v], vec 57 1 v k (ds.map Sec.hdr), sep (ds.map (Sec.own 5)), Fr]) (fun ⟨k, v, ds⟩ => nn - k) (0, .slice none 0 0, []) ⟨by omega, rfl, by simp, rfl⟩ (LiveIs.cons rfl (LiveIs.cons rfl (LiveIs.cons rfl LiveIs.nil))) ?_ ?_
   · exact Ent.cons (Ent.refl _) (Ent.cons (Ent.refl _) (Ent.unflat [] [Fr]))
   rintro ⟨k, v, ds⟩ e9 ⟨hk, hd, hok, hb⟩
   dsimp only
   refine T.seq fun K10 hK10 => ?_
   refine T.region (l := [0]) rfl ?_
   refine RN.p rfl (p_lss rfl rfl rfl) ?_
   refine RN.nil ?_
   refine hK10 _ _ ?_
   refine T.seq fun K11 hK11 => ?_
   refine T.cond_dec rfl (fun h15 => ?_) (fun h15 => ?_)
   ·
    refine T.skip ?_
    refine hK11 _ _ ?_
    refine T.seq fun K12 hK12 => ?_
    refine T.block ?_
    refine T.regionD (z := 10) (Bs := [row b12 63 [v]]) (l := [(0, .pure), (1, .pure), (2, .pure), (3, .pure), (4, .load), (5, .eff), (6, .eff), (7, .eff), (8, .pure), (9, .pure), (10, .eff)]) mixed (by kernel_rfl) (by exact Ent.pull_drop (is := [0]) rfl) ?_
    refine RD.n rfl (p_move rfl (by conv => lhs; whnf)) ?_
    refine RD.n rfl (p_move rfl (by conv => lhs; whnf)) ?_
    refine RD.n rfl (p_nilCheck rfl rfl) ?_
    refine RD.n rfl (p_fieldAddr rfl fa_63_0 rfl) ?_
    refine RD.qq rfl rfl rfl rfl (q_load rfl sc_61 rfl (i := 0) rfl rfl) (by exact Ent.pull_drop (is := [0]) rfl) ?_
    refine RD.E rfl rfl rfl rfl (by exact (e_makeSliceN (n := 32) (c := 32) rfl Tryz.underlying57 ti_5 rfl rfl rfl (by omega))) (by rintro _ _ ⟨_, rfl, rfl⟩; exact .inl (by exact Ent.pull_drop (is := [1]) rfl)) ?_
    rintro _ _ ⟨b21, rfl, rfl⟩
    refine RD.E rfl rfl rfl rfl (e_buildSlice1 rfl Tryz.underlying61 ti_57 rfl (by conv => lhs; whnf) rfl) (by rintro _ _ ⟨_, rfl, rfl⟩; exact .inl (by exact Ent.pull_drop (is := [2]) rfl)) ?_
    rintro _ _ ⟨b22, rfl, rfl⟩
    refine RD.E rfl rfl rfl rfl (e_append rfl Tryz.underlying61 ni_61 ti_57 rfl rfl (i := 3) rfl (src_full (i := 0) rfl rfl) (by exact one_one rfl) (by omega)) (by rintro _ _ ⟨_, rfl⟩; exact .inl (by exact Ent.pull_drop (is := [2]) rfl)) ?_
    rintro v23 _ ⟨hv23, rfl⟩
    simp only [setN]
    refine RD.n rfl (p_nilCheck rfl rfl) ?_
    refine RD.n rfl (p_fieldAddr rfl fa_63_0 rfl) ?_
    refine RD.EN rfl rfl rfl (by exact (e_store rfl ts_61 rfl (by conv => lhs; whnf) (by assumption) (i := 2) rfl (by simp))) (fun _ _ _ => .inr rfl) ?_
    rintro _ _ ⟨rfl, rfl⟩
    refine RD.nil ?_
    refine hK12 _ _ ?_
    refine T.region (l := [0, 1]) rfl ?_
    refine RN.p rfl (by exact (p_addN (b := 1) rfl rfl rfl (by omega))) ?_
    refine RN.m rfl ?_
    refine RN.nil ?_
    refine ⟨(k + 1, v23, ds ++ [⟨b21, 32, z32, []⟩]), ?_, (by simp; omega), (LiveIs.cons rfl (LiveIs.cons rfl (LiveIs.cons rfl LiveIs.nil))), ?_⟩
    ·
     refine ⟨by omega, by simp [hd], ?_, ?_⟩
     ·
      intro x hx
      rcases List.mem_append.1 hx with h | h
      · exact hok x h
      · rw [List.mem_singleton.1 h]; rfl
     ·
      show bytesOf (ds ++ [(⟨b21, 32, z32, []⟩ : Sec)]) = List.replicate (k + 1) z32
      rw [bytesOf, List.map_append, List.replicate_succ', ← hb]
      rfl
    ·
     refine (Ent.pull_drop (is := [1, 3, 1, 1, 1]) rfl).trans ?_
     refine Ent.trans (own_push (TB := 5) (ds := ds) (d := (⟨b21, 32, z32, []⟩ : Sec))) ?_
     refine (Ent.pull_drop (is := [1, 1, 0, 0]) rfl).trans (Ent.of_eq ?_)
     simp only [List.map_append]
     rfl
   ·
    have hkn : k = nn := by omega
    subst hkn
    refine T.exit ?_
    refine Post.seq_x ?_
    refine Post.seq_x ?_
    refine Post.block_hit ?_
    refine hK7 _ _ ?_
    refine T.seq fun K13 hK13 => ?_
    subst hd
    refine T.openVec 1 rfl (by omega) ?_
    rintro p cap rest rfl hc1 hc2 hc3
    refine T.region (l := [0, 1, 2]) rfl ?_
    refine RN.m rfl ?_
    refine RN.a rfl ?_
    refine RN.a rfl ?_
    refine RN.nil ?_
    refine hK13 _ _ ?_
    refine T.ret ?_
    refine bodyQ_ret (arrR 63 57 5 b12 p cap ds rest) (RetRun.tmp (RetRun.tmp RetRun.nil)) (by unfold NewQ; rw [if_pos (by omega)]; exact ⟨b12, p, cap, ds, rest, rfl, rfl, hok, by simpa using hb, hc1, rfl⟩) (Ent.refl _)

end Go.Proofs.YtbbgajjonodlfaaGreat
namespace Go.Proofs.YtbbgajjonodlfaaGreat
open Go Go.Sl Go.Proofs
set_option maxRecDepth 20000
open Go.Mo
end Go.Proofs.YtbbgajjonodlfaaGreat
namespace Go.Proofs.YtbbgajjonodlfaaGreat
open Go Go.Sl Go.Proofs
set_option maxRecDepth 20000
open Go.Mo
theorem Read_A (a : Nat) (t : List UInt8) (lba n : Int) : Ctr Tryz.prog 85 [ptr a 0, .int .i64 lba, .int .i64 n] [arrA 63 57 5 a t] (fun v Ps => v = .tuple #[strV (rdT t lba n), .int .i64 (erT t lba n)] ∧ Ps = [arrA 63 57 5 a t]) := by
 refine Ctr.arr (R := []) ⟨_, Tryz.func85, by kernel_rfl, by kernel_rfl⟩ fun p cap ds rest hok hb hc => ?_
 subst hc
 refine (Read_spec a p cap ds rest lba n hok hb.2.1 hb.2.2).mono (Ent.refl _) ?_
 rintro v Ps ⟨rfl, rfl⟩
 refine ⟨_, ⟨?_, rfl⟩, arr_close (R := []) hok hb rfl⟩
 unfold rdT erT
 rw [cat_cap hok]
 by_cases hR : Right ds.length lba n
 · rw [if_pos hR, if_pos hR, if_pos hR, read_flat hok]
 · rw [if_neg hR, if_neg hR, if_neg hR]
theorem Write_A (a : Nat) (t : List UInt8) (lba n : Int) (data : List UInt8) : Ctr Tryz.prog 8 [ptr a 0, .int .i64 lba, .int .i64 n, strV data] [arrA 63 57 5 a t] (fun v Ps => v = .int .i64 (erT t lba n) ∧ Ps = [arrA 63 57 5 a (wrT t lba n data)]) := by
 refine Ctr.arr (R := []) ⟨_, Tryz.func8, by kernel_rfl, by kernel_rfl⟩ fun p cap ds rest hok hb hc => ?_
 subst hc
 refine (Write_spec a p cap ds rest lba n data hok hb.2.1).mono (Ent.refl _) ?_
 rintro v Ps ⟨rfl, ds2, hok2, hb2, rfl⟩
 obtain ⟨h1, h2⟩ := write_law hok hb2
 refine ⟨_, ⟨?_, rfl⟩, arr_close (R := []) hok2 (by rw [h2]; exact hb) ?_⟩
 ·
  unfold erT
  rw [cat_cap hok]
 ·
  rw [← h1]
  unfold wrT
  rw [cat_cap hok]
theorem Trim_A (a : Nat) (t : List UInt8) (lba n : Int) : Ctr Tryz.prog 86 [ptr a 0, .int .i64 lba, .int .i64 n] [arrA 63 57 5 a t] (fun v Ps => v = .int .i64 (erT t lba n) ∧ Ps = [arrA 63 57 5 a (wrT t lba n [])]) := by
 refine Ctr.arr (R := []) ⟨_, Tryz.func86, by kernel_rfl, by kernel_rfl⟩ fun p cap ds rest hok hb hc => ?_
 subst hc
 refine (Trim_spec a p cap ds rest lba n hok hb.2.1).mono (Ent.refl _) ?_
 rintro v Ps ⟨rfl, ds2, hok2, hb2, rfl⟩
 obtain ⟨h1, h2⟩ := write_law hok hb2
 refine ⟨_, ⟨?_, rfl⟩, arr_close (R := []) hok2 (by rw [h2]; exact hb) ?_⟩
 ·
  unfold erT
  rw [cat_cap hok]
 ·
  rw [← h1]
  unfold wrT
  rw [cat_cap hok]
theorem Content_A (a : Nat) (t : List UInt8) : Ctr Tryz.prog 16 [ptr a 0] [arrA 63 57 5 a t] (fun v Ps => v = strV t ∧ Ps = [arrA 63 57 5 a t]) := by
 refine Ctr.arr (R := []) ⟨_, Tryz.func16, by kernel_rfl, by kernel_rfl⟩ fun p cap ds rest hok hb hc => ?_
 subst hc
 refine (Content_spec a p cap ds rest hok ⟨hb.1, hb.2.1⟩ hb.2.2).mono (Ent.refl _) ?_
 rintro v Ps ⟨rfl, rfl⟩
 exact ⟨_, ⟨rfl, rfl⟩, arr_close (R := []) hok hb rfl⟩
def NewA (n : Int) : Value → List Assn → Prop := fun v Ps => if 1 ≤ n ∧ n ≤ 512 then ∃ a, v = .tuple #[ptr a 0, .int .i64 0] ∧ Ps = [arrA 63 57 5 a (List.replicate (n.toNat * 32) 0)] else v = .tuple #[.pointer none, .int .i64 1] ∧ Ps = []
theorem NewA_yes {n : Int} {v : Value} {Ps : List Assn} (h : NewA n v Ps) (hn : 1 ≤ n ∧ n ≤ 512) : ∃ a, v = .tuple #[ptr a 0, .int .i64 0] ∧ Ps = [arrA 63 57 5 a (List.replicate (n.toNat * 32) 0)] := by
 unfold NewA at h; rwa [if_pos hn] at h
theorem NewA_no {n : Int} {v : Value} {Ps : List Assn} (h : NewA n v Ps) (hn : ¬ (1 ≤ n ∧ n ≤ 512)) : v = .tuple #[.pointer none, .int .i64 1] ∧ Ps = [] := by
 unfold NewA at h; rwa [if_neg hn] at h
theorem New_A (n : Int) : Ctr Tryz.prog 7 [.int .i64 n] [] (NewA n) := by
 refine (New_spec n).mono (Ent.refl _) ?_
 intro v Ps h
 by_cases hn : 1 ≤ n ∧ n ≤ 512
 ·
  obtain ⟨a, p, cap, ds, rest, rfl, h1, h2, h3, h4, rfl⟩ := NewQ_yes h hn
  exact ⟨_, by unfold NewA; rw [if_pos hn]; exact ⟨a, rfl, rfl⟩, arr_close (R := []) h2 ⟨by omega, by omega, h4⟩ (cat_z h3)⟩
 ·
  obtain ⟨rfl, rfl⟩ := NewQ_no h hn
  exact ⟨[], by unfold NewA; rw [if_neg hn]; exact ⟨rfl, rfl⟩, Ent.refl _⟩

end Go.Proofs.YtbbgajjonodlfaaGreat
namespace Go.Proofs.YtbbgajjonodlfaaGreat
open Go Go.Sl Go.Proofs
set_option maxRecDepth 20000
open Go.Mo Go.Evl
theorem Device_A (a : Nat) : Ctr Tryz.prog 50 [.iface 24 (ptr a 0)] [] (fun v Ps => v = .tuple #[zvA ti_101, .bool false] ∧ Ps = []) := by
 refine Ctr.of_body Tryz.func50 rfl (by kernel_rfl) Tryz.ntmps50 rfl rfl (fun Fr => ?_)
 refine T.seq fun K1 hK1 => ?_
 refine T.region (l := [0, 1]) rfl ?_
 refine RN.a rfl ?_
 refine RN.a rfl ?_
 refine RN.nil ?_
 refine hK1 _ _ ?_
 refine T.seq fun K2 hK2 => ?_
 refine T.region (l := [0, 1, 2, 3, 4, 5, 6]) rfl ?_
 refine RN.m rfl ?_
 refine RN.p rfl (p_taOtherP (hz := ti_101) rfl Tryz.underlying101 rfl (by decide)) ?_
 refine RN.m rfl ?_
 refine RN.p rfl (p_extract rfl rfl rfl) ?_
 refine RN.p rfl (p_extract rfl rfl rfl) ?_
 refine RN.a rfl ?_
 refine RN.a rfl ?_
 refine RN.nil ?_
 refine hK2 _ _ ?_
 refine T.seq fun K3 hK3 => ?_
 refine T.region (l := [0, 1, 2, 3]) rfl ?_
 refine RN.m rfl ?_
 refine RN.m rfl ?_
 refine RN.a rfl ?_
 refine RN.a rfl ?_
 refine RN.nil ?_
 refine hK3 _ _ ?_
 refine T.ret ?_
 refine bodyQ_ret [] (RetRun.tmp (RetRun.tmp RetRun.nil)) ⟨rfl, rfl⟩ (Ent.refl _)

theorem Sectors_A (a : Nat) (t : List UInt8) (htl : t.length ≤ 16384) : Ctr Tryz.prog 29 [.iface 24 (ptr a 0)] [arrA 63 57 5 a t] (fun v Ps => v = intV (t.length / 32) ∧ Ps = [arrA 63 57 5 a t]) := by
 refine Ctr.of_body Tryz.func29 rfl (by kernel_rfl) Tryz.ntmps29 rfl rfl (fun Fr => ?_)
 refine T.seq fun K1 hK1 => ?_
 refine T.region (l := [0]) rfl ?_
 refine RN.a rfl ?_
 refine RN.nil ?_
 refine hK1 _ _ ?_
 refine T.seq fun K2 hK2 => ?_
 refine T.seq fun K3 hK3 => ?_
 refine T.region (l := [0, 1, 2, 3, 4, 5, 6]) rfl ?_
 refine RN.m rfl ?_
 refine RN.C [] rfl rfl rfl rfl (c_call rfl rfl) (Device_A a) rfl ?_
 rintro _ _ ⟨rfl, rfl⟩
 refine RN.m rfl ?_
 refine RN.p rfl (p_extract rfl rfl rfl) ?_
 refine RN.p rfl (p_extract rfl rfl rfl) ?_
 refine RN.a rfl ?_
 refine RN.a rfl ?_
 refine RN.nil ?_
 refine hK3 _ _ ?_
 refine T.seq fun K4 hK4 => ?_
 refine T.region (l := [0]) rfl ?_
 refine RN.m rfl ?_
 refine RN.nil ?_
 refine hK4 _ _ ?_
 refine T.known 10 rfl (show _ = Value.bool false from rfl) ?_
 refine T.cond_f rfl ?_
 refine T.skip ?_
 refine hK2 _ _ ?_
 refine T.seq fun K5 hK5 => ?_
 refine T.region (l := [0, 1, 2, 3, 4]) rfl ?_
 refine RN.m rfl ?_
 refine RN.C [0] rfl rfl rfl rfl (c_invokeA rfl rfl (by kernel_rfl) rfl) (Content_A a t) rfl ?_
 rintro _ _ ⟨rfl, rfl⟩
 refine RN.p rfl (p_len_s rfl Tryz.underlying9 rfl) ?_
 refine RN.p rfl (by exact (p_quoN (b := 32) rfl rfl rfl (by omega))) ?_
 refine RN.a rfl ?_
 refine RN.nil ?_
 refine hK5 _ _ ?_
 refine T.ret ?_
 refine bodyQ_ret [arrA 63 57 5 a t] (RetRun.tmp RetRun.nil) ⟨rfl, rfl⟩ (Ent.refl _)

def cpT (t : List UInt8) (lba n at_ : Int) : List UInt8 := if Right (t.length / 32 : Nat) lba n then wrT t at_ n (rdT t lba n) else t
def cpE (t : List UInt8) (lba n at_ : Int) : Int := if Right (t.length / 32 : Nat) lba n then erT t at_ n else 1
theorem erT_ne {t : List UInt8} {lba n : Int} (h : erT t lba n ≠ 0) : ¬ Right (t.length / 32 : Nat) lba n := fun hR => h (by unfold erT; rw [if_pos hR])
theorem erT_eq {t : List UInt8} {lba n : Int} (h : erT t lba n = 0) : Right (t.length / 32 : Nat) lba n := by
 unfold erT at h
 by_cases hR : Right (t.length / 32 : Nat) lba n
 · exact hR
 · rw [if_neg hR] at h; cases h
theorem erT_no {t : List UInt8} {lba n : Int} (h : ¬ Right (t.length / 32 : Nat) lba n) : erT t lba n = 1 := by unfold erT; rw [if_neg h]
theorem erT_yes {t : List UInt8} {lba n : Int} (h : Right (t.length / 32 : Nat) lba n) : erT t lba n = 0 := by unfold erT; rw [if_pos h]

theorem Copyd_A (a : Nat) (t : List UInt8) (lba n at_ : Int) : Ctr Tryz.prog 49 [.iface 24 (ptr a 0), .iface 24 (ptr a 0), .int .i64 lba, .int .i64 n, .int .i64 at_] [arrA 63 57 5 a t] (fun v Ps => v = .int .i64 (cpE t lba n at_) ∧ Ps = [arrA 63 57 5 a (cpT t lba n at_)]) := by
 refine Ctr.of_body Tryz.func49 rfl (by kernel_rfl) Tryz.ntmps49 rfl rfl (fun Fr => ?_)
 refine T.seq fun K1 hK1 => ?_
 refine T.region (l := [0]) rfl ?_
 refine RN.a rfl ?_
 refine RN.nil ?_
 refine hK1 _ _ ?_
 refine T.seq fun K2 hK2 => ?_
 refine T.region (l := [0, 1, 2, 3, 4, 5, 6, 7, 8]) rfl ?_
 refine RN.m rfl ?_
 refine RN.m rfl ?_
 refine RN.m rfl ?_
 refine RN.C [0] rfl rfl rfl rfl (c_invokeA rfl rfl (by kernel_rfl) rfl) (Read_A a t lba n) rfl ?_
 rintro _ _ ⟨rfl, rfl⟩
 refine RN.m rfl ?_
 refine RN.p rfl (p_extract rfl rfl rfl) ?_
 refine RN.p rfl (p_extract rfl rfl rfl) ?_
 refine RN.a rfl ?_
 refine RN.a rfl ?_
 refine RN.nil ?_
 refine hK2 _ _ ?_
 refine T.seq fun K3 hK3 => ?_
 refine T.seq fun K4 hK4 => ?_
 refine T.region (l := [0, 1]) rfl ?_
 refine RN.m rfl ?_
 refine RN.p rfl (p_neq rfl rfl rfl) ?_
 refine RN.nil ?_
 refine hK4 _ _ ?_
 refine T.cond_dec rfl (fun h21 => ?_) (fun h21 => ?_)
 ·
  have hR := erT_ne h21
  refine T.seq fun K5 hK5 => ?_
  refine T.region (l := [0, 1]) rfl ?_
  refine RN.m rfl ?_
  refine RN.a rfl ?_
  refine RN.nil ?_
  refine hK5 _ _ ?_
  refine T.ret ?_
  refine Post.seq_r ?_
  refine bodyQ_ret [arrA 63 57 5 a t] (RetRun.tmp RetRun.nil) ⟨by rw [erT_no hR, cpE, if_neg hR]; rfl, by rw [cpT, if_neg hR]⟩ (Ent.refl _)
 ·
  have hR := erT_eq (Classical.not_not.1 h21)
  refine T.skip ?_
  refine hK3 _ _ ?_
  refine T.seq fun K6 hK6 => ?_
  refine T.region (l := [0, 1, 2, 3, 4, 5]) rfl ?_
  refine RN.m rfl ?_
  refine RN.m rfl ?_
  refine RN.m rfl ?_
  refine RN.m rfl ?_
  refine RN.C [0] rfl rfl rfl rfl (c_invokeA rfl rfl (by kernel_rfl) rfl) (Write_A a t at_ n (rdT t lba n)) rfl ?_
  rintro _ _ ⟨rfl, rfl⟩
  refine RN.a rfl ?_
  refine RN.nil ?_
  refine hK6 _ _ ?_
  refine T.ret ?_
  refine bodyQ_ret [arrA 63 57 5 a (wrT t at_ n (rdT t lba n))] (RetRun.tmp RetRun.nil) ⟨by rw [cpE, if_pos hR]; rfl, by rw [cpT, if_pos hR]⟩ (Ent.refl _)

end Go.Proofs.YtbbgajjonodlfaaGreat
