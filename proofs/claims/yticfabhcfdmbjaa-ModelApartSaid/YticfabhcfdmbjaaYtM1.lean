/-
  Walks of package model.
-/
import Derived.Test.YticfabhcfdmbjaaYtTy
import Derived.Test.YticfabhcfdmbjaaModelP
namespace Go.Proofs.Yticfabhcfdmbjaa
open Go Go.Sl Go.Proofs
set_option maxRecDepth 20000
open Go.Mo
theorem right_spec (a : Nat) (lba n : Int) (base : Option Addr) (c cap : Nat) (hc : c ≤ 9223372036854775807) : Ctr Try.prog 33 [ptr a 0, .int .i64 lba, .int .i64 n] [row a 75 [.slice base c cap]] (fun v Ps => v = .bool (decide (Right c lba n)) ∧ Ps = [row a 75 [.slice base c cap]]) := by
  refine Ctr.of_body Try.func33 rfl (by kernel_rfl) Try.ntmps33 rfl rfl (fun Fr => ?_)
  refine T.seq fun K1 hK1 => ?_
  refine T.region (l := [0]) rfl ?_
  refine RN.qq rfl rfl rfl rfl (PRun.q (p_assign rfl (by conv => lhs; whnf))) ?_
  refine RN.nil ?_
  refine hK1 _ _ ?_
  refine T.seq fun K2 hK2 => ?_
  refine T.region (l := [0, 1, 2, 3, 4, 5, 6, 7, 8, 9, 10, 11, 12, 13, 14, 15, 16, 17, 18, 19, 20, 21, 22, 23, 24, 25, 26]) rfl ?_
  refine RN.qq rfl rfl rfl rfl (PRun.q (p_move rfl (by conv => lhs; whnf))) ?_
  refine RN.qq rfl rfl rfl rfl (PRun.q (p_geq rfl rfl rfl)) ?_
  refine RN.qq rfl rfl rfl rfl (PRun.q (p_move rfl (by conv => lhs; whnf))) ?_
  first | refine RN.split_dec 9 rfl (fun h9 => ?_) (fun h9 => ?_) | refine RN.split 9 rfl (fun h9 => ?_) (fun h9 => ?_)
  ·
    refine RN.qq rfl rfl rfl rfl (PRun.q (p_move rfl (by conv => lhs; whnf))) ?_
    refine RN.qq rfl rfl rfl rfl (PRun.q (p_move rfl (by conv => lhs; whnf))) ?_
    refine RN.qq rfl rfl rfl rfl (PRun.q (p_nilCheck rfl rfl)) ?_
    refine RN.qq rfl rfl rfl rfl (PRun.q (p_fieldAddr rfl fa_75_0 rfl)) ?_
    refine RN.qq rfl rfl rfl rfl (by first | exact (q_load rfl sc_73 rfl (i := 0) rfl rfl) | exact (q_load rfl sc_73 rfl (i := 1) rfl rfl) | exact (q_load rfl sc_73 rfl (i := 2) rfl rfl) | exact (q_load rfl sc_73 rfl (i := 3) rfl rfl) | exact (q_load rfl sc_73 rfl (i := 4) rfl rfl)) ?_
    refine RN.qq rfl rfl rfl rfl (PRun.q (p_len rfl Try.underlying73 rfl)) ?_
    refine RN.qq rfl rfl rfl rfl (PRun.q (p_leq rfl rfl rfl)) ?_
    refine RN.qq rfl rfl rfl rfl (PRun.q (p_pick_t rfl rfl (by conv => lhs; whnf))) ?_
    refine RN.qq rfl rfl rfl rfl (PRun.q (p_move rfl (by conv => lhs; whnf))) ?_
    first | refine RN.split_dec 18 rfl (fun h18 => ?_) (fun h18 => ?_) | refine RN.split 18 rfl (fun h18 => ?_) (fun h18 => ?_)
    ·
      refine RN.qq rfl rfl rfl rfl (PRun.q (p_move rfl (by conv => lhs; whnf))) ?_
      refine RN.qq rfl rfl rfl rfl (PRun.q (p_geq rfl rfl rfl)) ?_
      refine RN.qq rfl rfl rfl rfl (PRun.q (p_pick_t rfl rfl (by conv => lhs; whnf))) ?_
      refine RN.qq rfl rfl rfl rfl (PRun.q (p_move rfl (by conv => lhs; whnf))) ?_
      first | refine RN.split_dec 22 rfl (fun h22 => ?_) (fun h22 => ?_) | refine RN.split 22 rfl (fun h22 => ?_) (fun h22 => ?_)
      ·
        refine RN.qq rfl rfl rfl rfl (PRun.q (p_move rfl (by conv => lhs; whnf))) ?_
        refine RN.qq rfl rfl rfl rfl (PRun.q (p_move rfl (by conv => lhs; whnf))) ?_
        refine RN.qq rfl rfl rfl rfl (PRun.q (p_nilCheck rfl rfl)) ?_
        refine RN.qq rfl rfl rfl rfl (PRun.q (p_fieldAddr rfl fa_75_0 rfl)) ?_
        refine RN.qq rfl rfl rfl rfl (by first | exact (q_load rfl sc_73 rfl (i := 0) rfl rfl) | exact (q_load rfl sc_73 rfl (i := 1) rfl rfl) | exact (q_load rfl sc_73 rfl (i := 2) rfl rfl) | exact (q_load rfl sc_73 rfl (i := 3) rfl rfl) | exact (q_load rfl sc_73 rfl (i := 4) rfl rfl)) ?_
        refine RN.qq rfl rfl rfl rfl (PRun.q (p_len rfl Try.underlying73 rfl)) ?_
        refine RN.qq rfl rfl rfl rfl (PRun.q (p_move rfl (by conv => lhs; whnf))) ?_
        refine RN.qq rfl rfl rfl rfl (PRun.q (by first | exact (p_subN rfl rfl rfl (by omega)) | exact (p_sub rfl rfl rfl (by omega)))) ?_
        refine RN.qq rfl rfl rfl rfl (PRun.q (p_leq rfl rfl rfl)) ?_
        refine RN.qq rfl rfl rfl rfl (PRun.q (p_pick_t rfl rfl (by conv => lhs; whnf))) ?_
        refine RN.qq rfl rfl rfl rfl (PRun.q (p_assign rfl (by conv => lhs; whnf))) ?_
        refine RN.nil ?_
        refine hK2 _ _ ?_
        refine T.ret ?_
        refine bodyQ_ret [row a 75 [.slice base c cap]] (RetRun.tmp RetRun.nil) ⟨congrArg Value.bool (by simp only [Right]; first | (simp; omega) | (simp [*]; done) | (simp [*]; omega)), rfl⟩ (Ent.refl _)
      ·
        refine RN.O rfl rfl rfl rfl ?_
        refine RN.O rfl rfl rfl rfl ?_
        refine RN.O rfl rfl rfl rfl ?_
        refine RN.O rfl rfl rfl rfl ?_
        refine RN.O rfl rfl rfl rfl ?_
        refine RN.O rfl rfl rfl rfl ?_
        refine RN.O rfl rfl rfl rfl ?_
        refine RN.O rfl rfl rfl rfl ?_
        refine RN.O rfl rfl rfl rfl ?_
        refine RN.qq rfl rfl rfl rfl (PRun.q (p_pick_f rfl rfl (by conv => lhs; whnf))) ?_
        refine RN.qq rfl rfl rfl rfl (PRun.q (p_assign rfl (by conv => lhs; whnf))) ?_
        refine RN.nil ?_
        refine hK2 _ _ ?_
        refine T.ret ?_
        refine bodyQ_ret [row a 75 [.slice base c cap]] (RetRun.tmp RetRun.nil) ⟨congrArg Value.bool (by simp only [Right]; first | (simp; omega) | (simp [*]; done) | (simp [*]; omega)), rfl⟩ (Ent.refl _)
    ·
      refine RN.O rfl rfl rfl rfl ?_
      refine RN.O rfl rfl rfl rfl ?_
      refine RN.qq rfl rfl rfl rfl (PRun.q (p_pick_f rfl rfl (by conv => lhs; whnf))) ?_
      refine RN.qq rfl rfl rfl rfl (PRun.q (p_move rfl (by conv => lhs; whnf))) ?_
      refine RN.O rfl rfl rfl rfl ?_
      refine RN.O rfl rfl rfl rfl ?_
      refine RN.O rfl rfl rfl rfl ?_
      refine RN.O rfl rfl rfl rfl ?_
      refine RN.O rfl rfl rfl rfl ?_
      refine RN.O rfl rfl rfl rfl ?_
      refine RN.O rfl rfl rfl rfl ?_
      refine RN.O rfl rfl rfl rfl ?_
      refine RN.O rfl rfl rfl rfl ?_
      refine RN.qq rfl rfl rfl rfl (PRun.q (p_pick_f rfl rfl (by conv => lhs; whnf))) ?_
      refine RN.qq rfl rfl rfl rfl (PRun.q (p_assign rfl (by conv => lhs; whnf))) ?_
      refine RN.nil ?_
      refine hK2 _ _ ?_
      refine T.ret ?_
      refine bodyQ_ret [row a 75 [.slice base c cap]] (RetRun.tmp RetRun.nil) ⟨congrArg Value.bool (by simp only [Right]; first | (simp; omega) | (simp [*]; done) | (simp [*]; omega)), rfl⟩ (Ent.refl _)
  ·
    refine RN.O rfl rfl rfl rfl ?_
    refine RN.O rfl rfl rfl rfl ?_
    refine RN.O rfl rfl rfl rfl ?_
    refine RN.O rfl rfl rfl rfl ?_
    refine RN.O rfl rfl rfl rfl ?_
    refine RN.O rfl rfl rfl rfl ?_
    refine RN.O rfl rfl rfl rfl ?_
    refine RN.qq rfl rfl rfl rfl (PRun.q (p_pick_f rfl rfl (by conv => lhs; whnf))) ?_
    refine RN.qq rfl rfl rfl rfl (PRun.q (p_move rfl (by conv => lhs; whnf))) ?_
    refine RN.O rfl rfl rfl rfl ?_
    refine RN.O rfl rfl rfl rfl ?_
    refine RN.qq rfl rfl rfl rfl (PRun.q (p_pick_f rfl rfl (by conv => lhs; whnf))) ?_
    refine RN.qq rfl rfl rfl rfl (PRun.q (p_move rfl (by conv => lhs; whnf))) ?_
    refine RN.O rfl rfl rfl rfl ?_
    refine RN.O rfl rfl rfl rfl ?_
    refine RN.O rfl rfl rfl rfl ?_
    refine RN.O rfl rfl rfl rfl ?_
    refine RN.O rfl rfl rfl rfl ?_
    refine RN.O rfl rfl rfl rfl ?_
    refine RN.O rfl rfl rfl rfl ?_
    refine RN.O rfl rfl rfl rfl ?_
    refine RN.O rfl rfl rfl rfl ?_
    refine RN.qq rfl rfl rfl rfl (PRun.q (p_pick_f rfl rfl (by conv => lhs; whnf))) ?_
    refine RN.qq rfl rfl rfl rfl (PRun.q (p_assign rfl (by conv => lhs; whnf))) ?_
    refine RN.nil ?_
    refine hK2 _ _ ?_
    refine T.ret ?_
    refine bodyQ_ret [row a 75 [.slice base c cap]] (RetRun.tmp RetRun.nil) ⟨congrArg Value.bool (by simp only [Right]; first | (simp; omega) | (simp [*]; done) | (simp [*]; omega)), rfl⟩ (Ent.refl _)

theorem Right9_spec (c lba n : Int) (hc : 0 ≤ c ∧ c ≤ 9223372036854775807) : Ctr Try.prog 36 [.int .i64 c, .int .i64 lba, .int .i64 n] [] (fun v Ps => v = .bool (decide (Right c lba n)) ∧ Ps = []) := by
  refine Ctr.of_body Try.func36 rfl (by kernel_rfl) Try.ntmps36 rfl rfl (fun Fr => ?_)
  refine T.seq fun K1 hK1 => ?_
  refine T.region (l := [0]) rfl ?_
  refine RN.qq rfl rfl rfl rfl (PRun.q (p_assign rfl (by conv => lhs; whnf))) ?_
  refine RN.nil ?_
  refine hK1 _ _ ?_
  refine T.seq fun K2 hK2 => ?_
  refine T.region (l := [0, 1, 2, 3, 4, 5, 6, 7, 8, 9, 10, 11, 12, 13, 14, 15, 16, 17, 18]) rfl ?_
  refine RN.qq rfl rfl rfl rfl (PRun.q (p_move rfl (by conv => lhs; whnf))) ?_
  refine RN.qq rfl rfl rfl rfl (PRun.q (p_geq rfl rfl rfl)) ?_
  refine RN.qq rfl rfl rfl rfl (PRun.q (p_move rfl (by conv => lhs; whnf))) ?_
  first | refine RN.split_dec 9 rfl (fun h9 => ?_) (fun h9 => ?_) | refine RN.split 9 rfl (fun h9 => ?_) (fun h9 => ?_)
  ·
    refine RN.qq rfl rfl rfl rfl (PRun.q (p_move rfl (by conv => lhs; whnf))) ?_
    refine RN.qq rfl rfl rfl rfl (PRun.q (p_move rfl (by conv => lhs; whnf))) ?_
    refine RN.qq rfl rfl rfl rfl (PRun.q (p_leq rfl rfl rfl)) ?_
    refine RN.qq rfl rfl rfl rfl (PRun.q (p_pick_t rfl rfl (by conv => lhs; whnf))) ?_
    refine RN.qq rfl rfl rfl rfl (PRun.q (p_move rfl (by conv => lhs; whnf))) ?_
    first | refine RN.split_dec 14 rfl (fun h14 => ?_) (fun h14 => ?_) | refine RN.split 14 rfl (fun h14 => ?_) (fun h14 => ?_)
    ·
      refine RN.qq rfl rfl rfl rfl (PRun.q (p_move rfl (by conv => lhs; whnf))) ?_
      refine RN.qq rfl rfl rfl rfl (PRun.q (p_geq rfl rfl rfl)) ?_
      refine RN.qq rfl rfl rfl rfl (PRun.q (p_pick_t rfl rfl (by conv => lhs; whnf))) ?_
      refine RN.qq rfl rfl rfl rfl (PRun.q (p_move rfl (by conv => lhs; whnf))) ?_
      first | refine RN.split_dec 18 rfl (fun h18 => ?_) (fun h18 => ?_) | refine RN.split 18 rfl (fun h18 => ?_) (fun h18 => ?_)
      ·
        refine RN.qq rfl rfl rfl rfl (PRun.q (p_move rfl (by conv => lhs; whnf))) ?_
        refine RN.qq rfl rfl rfl rfl (PRun.q (p_move rfl (by conv => lhs; whnf))) ?_
        refine RN.qq rfl rfl rfl rfl (PRun.q (p_move rfl (by conv => lhs; whnf))) ?_
        refine RN.qq rfl rfl rfl rfl (PRun.q (by first | exact (p_subN rfl rfl rfl (by omega)) | exact (p_sub rfl rfl rfl (by omega)))) ?_
        refine RN.qq rfl rfl rfl rfl (PRun.q (p_leq rfl rfl rfl)) ?_
        refine RN.qq rfl rfl rfl rfl (PRun.q (p_pick_t rfl rfl (by conv => lhs; whnf))) ?_
        refine RN.qq rfl rfl rfl rfl (PRun.q (p_assign rfl (by conv => lhs; whnf))) ?_
        refine RN.nil ?_
        refine hK2 _ _ ?_
        refine T.ret ?_
        refine bodyQ_ret [] (RetRun.tmp RetRun.nil) ⟨congrArg Value.bool (by simp only [Right]; first | (simp; omega) | (simp [*]; done) | (simp [*]; omega)), rfl⟩ (Ent.refl _)
      ·
        refine RN.O rfl rfl rfl rfl ?_
        refine RN.O rfl rfl rfl rfl ?_
        refine RN.O rfl rfl rfl rfl ?_
        refine RN.O rfl rfl rfl rfl ?_
        refine RN.O rfl rfl rfl rfl ?_
        refine RN.qq rfl rfl rfl rfl (PRun.q (p_pick_f rfl rfl (by conv => lhs; whnf))) ?_
        refine RN.qq rfl rfl rfl rfl (PRun.q (p_assign rfl (by conv => lhs; whnf))) ?_
        refine RN.nil ?_
        refine hK2 _ _ ?_
        refine T.ret ?_
        refine bodyQ_ret [] (RetRun.tmp RetRun.nil) ⟨congrArg Value.bool (by simp only [Right]; first | (simp; omega) | (simp [*]; done) | (simp [*]; omega)), rfl⟩ (Ent.refl _)
    ·
      refine RN.O rfl rfl rfl rfl ?_
      refine RN.O rfl rfl rfl rfl ?_
      refine RN.qq rfl rfl rfl rfl (PRun.q (p_pick_f rfl rfl (by conv => lhs; whnf))) ?_
      refine RN.qq rfl rfl rfl rfl (PRun.q (p_move rfl (by conv => lhs; whnf))) ?_
      refine RN.O rfl rfl rfl rfl ?_
      refine RN.O rfl rfl rfl rfl ?_
      refine RN.O rfl rfl rfl rfl ?_
      refine RN.O rfl rfl rfl rfl ?_
      refine RN.O rfl rfl rfl rfl ?_
      refine RN.qq rfl rfl rfl rfl (PRun.q (p_pick_f rfl rfl (by conv => lhs; whnf))) ?_
      refine RN.qq rfl rfl rfl rfl (PRun.q (p_assign rfl (by conv => lhs; whnf))) ?_
      refine RN.nil ?_
      refine hK2 _ _ ?_
      refine T.ret ?_
      refine bodyQ_ret [] (RetRun.tmp RetRun.nil) ⟨congrArg Value.bool (by simp only [Right]; first | (simp; omega) | (simp [*]; done) | (simp [*]; omega)), rfl⟩ (Ent.refl _)
  ·
    refine RN.O rfl rfl rfl rfl ?_
    refine RN.O rfl rfl rfl rfl ?_
    refine RN.O rfl rfl rfl rfl ?_
    refine RN.qq rfl rfl rfl rfl (PRun.q (p_pick_f rfl rfl (by conv => lhs; whnf))) ?_
    refine RN.qq rfl rfl rfl rfl (PRun.q (p_move rfl (by conv => lhs; whnf))) ?_
    refine RN.O rfl rfl rfl rfl ?_
    refine RN.O rfl rfl rfl rfl ?_
    refine RN.qq rfl rfl rfl rfl (PRun.q (p_pick_f rfl rfl (by conv => lhs; whnf))) ?_
    refine RN.qq rfl rfl rfl rfl (PRun.q (p_move rfl (by conv => lhs; whnf))) ?_
    refine RN.O rfl rfl rfl rfl ?_
    refine RN.O rfl rfl rfl rfl ?_
    refine RN.O rfl rfl rfl rfl ?_
    refine RN.O rfl rfl rfl rfl ?_
    refine RN.O rfl rfl rfl rfl ?_
    refine RN.qq rfl rfl rfl rfl (PRun.q (p_pick_f rfl rfl (by conv => lhs; whnf))) ?_
    refine RN.qq rfl rfl rfl rfl (PRun.q (p_assign rfl (by conv => lhs; whnf))) ?_
    refine RN.nil ?_
    refine hK2 _ _ ?_
    refine T.ret ?_
    refine bodyQ_ret [] (RetRun.tmp RetRun.nil) ⟨congrArg Value.bool (by simp only [Right]; first | (simp; omega) | (simp [*]; done) | (simp [*]; omega)), rfl⟩ (Ent.refl _)

theorem Write_spec (a p cap : Nat) (ds : List Sec) (rest : List Value) (lba n : Int) (data : List UInt8) (hok : ∀ x ∈ ds, x.ok) (hl : ds.length ≤ 512) : Ctr Try.prog 14 [ptr a 0, .int .i64 lba, .int .i64 n, strV data] [row a 75 [slc p 0 ds.length cap], row p 49 (ds.map Sec.hdr ++ rest), sep (ds.map (Sec.own 5))] (fun v Ps => v = .int .i64 (if Right ds.length lba n then 0 else 1) ∧ ∃ ds', (∀ x ∈ ds', x.ok) ∧ bytesOf ds' = (if Right ds.length lba n then wrK (bytesOf ds) lba.toNat data n.toNat else bytesOf ds) ∧ Ps = arrR 75 49 5 a p cap ds' rest) := by
  refine Ctr.of_body Try.func14 rfl (by kernel_rfl) Try.ntmps14 rfl rfl (fun Fr => ?_)
  refine T.seq fun K1 hK1 => ?_
  refine T.region (l := [0]) rfl ?_
  refine RN.qq rfl rfl rfl rfl (PRun.q (p_assign rfl (by conv => lhs; whnf))) ?_
  refine RN.nil ?_
  refine hK1 _ _ ?_
  refine T.seq fun K2 hK2 => ?_
  refine T.seq fun K3 hK3 => ?_
  refine T.region (l := [0, 1, 2, 3, 4]) rfl ?_
  refine RN.qq rfl rfl rfl rfl (PRun.q (p_move rfl (by conv => lhs; whnf))) ?_
  refine RN.qq rfl rfl rfl rfl (PRun.q (p_move rfl (by conv => lhs; whnf))) ?_
  refine RN.qq rfl rfl rfl rfl (PRun.q (p_move rfl (by conv => lhs; whnf))) ?_
  refine RN.C [0] rfl rfl rfl rfl (c_call rfl rfl) (right_spec a lba n _ ds.length cap (by omega)) rfl ?_
  rintro _ _ ⟨rfl, rfl⟩
  refine RN.qq rfl rfl rfl rfl (PRun.q (by first | exact (p_not_dec rfl rfl) | exact (p_not rfl rfl))) ?_
  refine RN.nil ?_
  refine hK3 _ _ ?_
  first | refine T.cond_dec rfl (fun h15 => ?_) (fun h15 => ?_) | refine T.cond rfl (fun h15 => ?_) (fun h15 => ?_)
  ·
    have hR : ¬ Right ds.length lba n := h15
    refine T.seq fun K4 hK4 => ?_
    refine T.region (l := [0]) rfl ?_
    refine RN.qq rfl rfl rfl rfl (PRun.q (p_assign rfl (by conv => lhs; whnf))) ?_
    refine RN.nil ?_
    refine hK4 _ _ ?_
    refine T.ret ?_
    refine Post.seq_r ?_
    refine bodyQ_ret (arrR 75 49 5 a p cap ds rest) (RetRun.tmp RetRun.nil) ⟨congrArg (Value.int .i64) (if_neg hR).symm, ds, hok, (if_neg hR).symm, rfl⟩ (Ent.refl _)
  ·
    have hR : Right ds.length lba n := Classical.not_not.1 h15
    have hR2 := hR
    unfold Right at hR2
    refine T.skip ?_
    refine hK2 _ _ ?_
    refine T.seq fun K5 hK5 => ?_
    refine T.seq fun K6 hK6 => ?_
    refine T.region (l := [0, 1]) rfl ?_
    refine RN.qq rfl rfl rfl rfl (PRun.q (p_move rfl (by conv => lhs; whnf))) ?_
    refine RN.qq rfl rfl rfl rfl (PRun.q (p_move rfl (by conv => lhs; whnf))) ?_
    refine RN.nil ?_
    refine hK6 _ _ ?_
    refine T.block ?_
    refine T.loop (G := Nat × List Sec) (fun ⟨k, d2⟩ => (k : Int) ≤ n ∧ d2.length = ds.length ∧ (∀ x ∈ d2, x.ok) ∧ bytesOf d2 = wrK (bytesOf ds) lba.toNat data k) (fun ⟨k, d2⟩ => [(0, ptr a 0), (1, .int .i64 lba), (3, strV (data.drop (32 * k))), (16, .int .i64 n), (17, .int .i64 k)]) (fun ⟨k, d2⟩ => [row a 75 [slc p 0 d2.length cap], row p 49 (d2.map Sec.hdr ++ rest), sep (d2.map (Sec.own 5)), Fr]) (fun ⟨k, d2⟩ => (n - k).toNat) (0, ds) ⟨by simp; omega, rfl, hok, rfl⟩ (LiveIs.cons rfl (LiveIs.cons rfl (LiveIs.cons rfl (LiveIs.cons rfl (LiveIs.cons rfl LiveIs.nil))))) (Ent.refl _) ?_
    rintro ⟨k, d2⟩ e7 ⟨hk, hd2, hok2, hb2⟩
    dsimp only
    refine T.seq fun K8 hK8 => ?_
    refine T.region (l := [0]) rfl ?_
    refine RN.qq rfl rfl rfl rfl (PRun.q (p_lss rfl rfl rfl)) ?_
    refine RN.nil ?_
    refine hK8 _ _ ?_
    refine T.seq fun K9 hK9 => ?_
    first | refine T.cond_dec rfl (fun h18 => ?_) (fun h18 => ?_) | refine T.cond rfl (fun h18 => ?_) (fun h18 => ?_)
    ·
      refine T.skip ?_
      refine hK9 _ _ ?_
      refine T.seq fun K10 hK10 => ?_
      refine T.block ?_
      refine T.seq fun K11 hK11 => ?_
      refine T.region (l := [0, 1]) rfl ?_
      refine RN.qq rfl rfl rfl rfl (PRun.q (p_move rfl (by conv => lhs; whnf))) ?_
      refine RN.qq rfl rfl rfl rfl (PRun.q (p_assign rfl (by conv => lhs; whnf))) ?_
      refine RN.nil ?_
      refine hK11 _ _ ?_
      refine T.seq fun K12 hK12 => ?_
      refine T.region (l := [0, 1]) rfl ?_
      refine RN.E rfl rfl rfl rfl (by first | exact (e_makeSliceN (n := 32) (c := 32) rfl Try.underlying49 ti_5 rfl rfl rfl (by omega)) | exact (e_makeSlice rfl Try.underlying49 ti_5 rfl rfl rfl (by omega))) ?_
      rintro _ _ ⟨b20, rfl, rfl⟩
      refine RN.qq rfl rfl rfl rfl (PRun.q (p_assign rfl (by conv => lhs; whnf))) ?_
      refine RN.nil ?_
      refine hK12 _ _ ?_
      refine T.seq fun K13 hK13 => ?_
      refine T.region (l := [0, 1, 2, 3, 4, 5]) rfl ?_
      refine RN.qq rfl rfl rfl rfl (PRun.q (p_move rfl (by conv => lhs; whnf))) ?_
      refine RN.qq rfl rfl rfl rfl (PRun.q (p_move rfl (by conv => lhs; whnf))) ?_
      refine RN.qq rfl rfl rfl rfl (PRun.q (p_move rfl (by conv => lhs; whnf))) ?_
      refine RN.E rfl rfl rfl rfl (by first | exact (e_copy rfl Try.underlying49 ts_5 rfl (i := 0) rfl (by simp [zeros]) src_str one_u8) | exact (e_copy rfl Try.underlying49 ts_5 rfl (i := 1) rfl (by simp [zeros]) src_str one_u8) | exact (e_copy rfl Try.underlying49 ts_5 rfl (i := 2) rfl (by simp [zeros]) src_str one_u8) | exact (e_copy rfl Try.underlying49 ts_5 rfl (i := 3) rfl (by simp [zeros]) src_str one_u8) | exact (e_copy rfl Try.underlying49 ts_5 rfl (i := 4) rfl (by simp [zeros]) src_str one_u8)) ?_
      rintro _ _ ⟨rfl, rfl⟩
      refine RN.qq rfl rfl rfl rfl (PRun.q (by first | exact (p_slice_s_lo rfl Try.underlying9 rfl rfl (by omega)) | exact (p_sliceN_s rfl Try.underlying9 rfl rfl rfl (by omega)) | exact (p_slice_s rfl Try.underlying9 rfl rfl rfl (by omega)))) ?_
      refine RN.qq rfl rfl rfl rfl (PRun.q (p_assign rfl (by conv => lhs; whnf))) ?_
      refine RN.nil ?_
      refine hK13 _ _ ?_
      refine T.region (l := [0, 1, 2, 3, 4, 5, 6, 7, 8, 9]) rfl ?_
      refine RN.qq rfl rfl rfl rfl (PRun.q (p_move rfl (by conv => lhs; whnf))) ?_
      refine RN.qq rfl rfl rfl rfl (PRun.q (p_nilCheck rfl rfl)) ?_
      refine RN.qq rfl rfl rfl rfl (PRun.q (p_fieldAddr rfl fa_75_0 rfl)) ?_
      refine RN.qq rfl rfl rfl rfl (by first | exact (q_load rfl sc_73 rfl (i := 0) rfl rfl) | exact (q_load rfl sc_73 rfl (i := 1) rfl rfl) | exact (q_load rfl sc_73 rfl (i := 2) rfl rfl) | exact (q_load rfl sc_73 rfl (i := 3) rfl rfl) | exact (q_load rfl sc_73 rfl (i := 4) rfl rfl)) ?_
      refine RN.qq rfl rfl rfl rfl (PRun.q (p_move rfl (by conv => lhs; whnf))) ?_
      refine RN.qq rfl rfl rfl rfl (PRun.q (p_move rfl (by conv => lhs; whnf))) ?_
      refine RN.qq rfl rfl rfl rfl (PRun.q (by first | exact (p_addN rfl rfl rfl (by omega)) | exact (p_add rfl rfl rfl (by omega)))) ?_
      refine RN.qq rfl rfl rfl rfl (PRun.q (p_move rfl (by conv => lhs; whnf))) ?_
      refine RN.qq rfl rfl rfl rfl (PRun.q (by first | exact (p_indexAddr1N rfl Try.underlying73 ts_49 rfl rfl (by omega)) | exact (p_indexAddr1 rfl Try.underlying73 ts_49 rfl rfl (by omega)))) ?_
      refine RN.EN rfl rfl rfl (by first | exact (e_store rfl ts_49 rfl (by conv => lhs; whnf) (by first | rfl | assumption) (i := 0) rfl (by simp; omega)) | exact (e_store rfl ts_49 rfl (by conv => lhs; whnf) (by first | rfl | assumption) (i := 1) rfl (by simp; omega)) | exact (e_store rfl ts_49 rfl (by conv => lhs; whnf) (by first | rfl | assumption) (i := 2) rfl (by simp; omega)) | exact (e_store rfl ts_49 rfl (by conv => lhs; whnf) (by first | rfl | assumption) (i := 3) rfl (by simp; omega)) | exact (e_store rfl ts_49 rfl (by conv => lhs; whnf) (by first | rfl | assumption) (i := 4) rfl (by simp; omega))) ?_
      rintro _ _ ⟨rfl, rfl⟩
      refine RN.nil ?_
      refine hK10 _ _ ?_
      refine T.region (l := [0, 1]) rfl ?_
      refine RN.qq rfl rfl rfl rfl (PRun.q (by first | exact (p_addN (b := 1) rfl rfl rfl (by omega)) | exact (p_add rfl rfl rfl (by omega)))) ?_
      refine RN.qq rfl rfl rfl rfl (PRun.q (p_move rfl (by conv => lhs; whnf))) ?_
      refine RN.nil ?_
      refine ⟨(k + 1, d2.set (lba.toNat + k) ⟨b20, 32, pad32 (data.drop (32 * k)), []⟩), ⟨by simp; omega, by simpa using hd2, ok_set hok2 (pad32_length _), by rw [bytes_set, hb2]; rfl⟩, (by simp; omega), (LiveIs.cons rfl (LiveIs.cons rfl (LiveIs.cons ?_ (LiveIs.cons rfl (LiveIs.cons rfl LiveIs.nil))))), ?_⟩
      · refine congrArg (fun l : List UInt8 => strV l) ?_
        rw [List.drop_drop]
        by_cases hlen : (data.drop (32 * k)).length ≤ 32
        · rw [List.drop_eq_nil_of_le (by simp at *; omega), List.drop_eq_nil_of_le (by simp at *; omega)]
        · rw [Nat.min_eq_right (by omega)]; rfl
      · have e1 : (0 + (lba + k).toNat) = lba.toNat + k := by omega
        have hj : lba.toNat + k < d2.length := by omega
        have e2 : [row b20 5 (lay (zeros 32 [Value.int IntKind.u8 0]) 0 (((data.drop (32 * k)).map u8V).take (min (data.drop (32 * k)).length 32 * 1))), row a 75 [slc p 0 d2.length cap], row p 49 ((d2.map Sec.hdr ++ rest).set (0 + (lba + k).toNat) (slc b20 0 32 32)), sep (d2.map (Sec.own 5)), Fr] = [Sec.own 5 ⟨b20, 32, pad32 (data.drop (32 * k)), []⟩, row a 75 [slc p 0 d2.length cap], row p 49 ((d2.set (lba.toNat + k) ⟨b20, 32, pad32 (data.drop (32 * k)), []⟩).map Sec.hdr ++ rest), sep (d2.map (Sec.own 5)), Fr] := by
          rw [lay_pad, e1, ← set_hdr (d := ⟨b20, 32, pad32 (data.drop (32 * k)), []⟩) hj]
          simp [Sec.own, Sec.hdr]
        refine (Ent.of_eq (congrArg sep e2)).trans ?_
        refine (Ent.pull (is := [0, 2]) rfl).trans ((own_set hj).trans ((Ent.pull (is := [1, 1, 0]) rfl).trans (Ent.of_eq ?_)))
        simp [delN]
    ·
      refine T.exit ?_
      refine Post.seq_x ?_
      refine Post.seq_x ?_
      refine Post.block_hit ?_
      refine hK5 _ _ ?_
      refine T.seq fun K14 hK14 => ?_
      refine T.region (l := [0]) rfl ?_
      refine RN.qq rfl rfl rfl rfl (PRun.q (p_assign rfl (by conv => lhs; whnf))) ?_
      refine RN.nil ?_
      refine hK14 _ _ ?_
      refine T.ret ?_
      have hkn : (k : Int) = n := by omega
      subst hkn
      refine bodyQ_ret (arrR 75 49 5 a p cap d2 rest) (RetRun.tmp RetRun.nil) ⟨congrArg (Value.int .i64) (if_pos hR).symm, d2, hok2, by rw [hb2, if_pos hR]; simp, rfl⟩ (Ent.refl _)

theorem Trim_spec (a p cap : Nat) (ds : List Sec) (rest : List Value) (lba n : Int) (hok : ∀ x ∈ ds, x.ok) (hl : ds.length ≤ 512) : Ctr Try.prog 15 [ptr a 0, .int .i64 lba, .int .i64 n] [row a 75 [slc p 0 ds.length cap], row p 49 (ds.map Sec.hdr ++ rest), sep (ds.map (Sec.own 5))] (fun v Ps => v = .int .i64 (if Right ds.length lba n then 0 else 1) ∧ ∃ ds', (∀ x ∈ ds', x.ok) ∧ bytesOf ds' = (if Right ds.length lba n then wrK (bytesOf ds) lba.toNat [] n.toNat else bytesOf ds) ∧ Ps = arrR 75 49 5 a p cap ds' rest) := by
  refine Ctr.of_body Try.func15 rfl (by kernel_rfl) Try.ntmps15 rfl rfl (fun Fr => ?_)
  refine T.seq fun K1 hK1 => ?_
  refine T.region (l := [0]) rfl ?_
  refine RN.qq rfl rfl rfl rfl (PRun.q (p_assign rfl (by conv => lhs; whnf))) ?_
  refine RN.nil ?_
  refine hK1 _ _ ?_
  refine T.seq fun K2 hK2 => ?_
  refine T.region (l := [0, 1, 2, 3, 4]) rfl ?_
  refine RN.qq rfl rfl rfl rfl (PRun.q (p_move rfl (by conv => lhs; whnf))) ?_
  refine RN.qq rfl rfl rfl rfl (PRun.q (p_move rfl (by conv => lhs; whnf))) ?_
  refine RN.qq rfl rfl rfl rfl (PRun.q (p_move rfl (by conv => lhs; whnf))) ?_
  refine RN.C [0, 0, 0] rfl rfl rfl rfl (c_call rfl rfl) (Write_spec a p cap ds rest lba n [] hok hl) rfl ?_
  rintro _ _ ⟨rfl, ds2, hok2, hb2, rfl⟩
  refine RN.qq rfl rfl rfl rfl (PRun.q (p_assign rfl (by conv => lhs; whnf))) ?_
  refine RN.nil ?_
  refine hK2 _ _ ?_
  refine T.ret ?_
  refine bodyQ_ret (arrR 75 49 5 a p cap ds2 rest) (RetRun.tmp RetRun.nil) ⟨rfl, ds2, hok2, hb2, rfl⟩ (Ent.refl _)

end Go.Proofs.Yticfabhcfdmbjaa
