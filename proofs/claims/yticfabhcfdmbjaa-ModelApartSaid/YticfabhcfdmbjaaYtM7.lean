/-
  Walks of the reference of model.
-/
import Derived.Test.YticfabhcfdmbjaaYtM6
namespace Go.Proofs.Yticfabhcfdmbjaa
open Go Go.Sl Go.Proofs
set_option maxRecDepth 20000
open Go.Mo
theorem Cap_spec (l : List UInt8) (hl : l.length ≤ 1099511627776) : Ctr Try.prog 37 [strV l] [] (fun v Ps => v = intV (l.length / 32) ∧ Ps = []) := by
  refine Ctr.of_body Try.func37 rfl (by kernel_rfl) Try.ntmps37 rfl rfl (fun Fr => ?_)
  refine T.seq fun K1 hK1 => ?_
  refine T.region (l := [0]) rfl ?_
  refine RN.qq rfl rfl rfl rfl (PRun.q (p_assign rfl (by conv => lhs; whnf))) ?_
  refine RN.nil ?_
  refine hK1 _ _ ?_
  refine T.seq fun K2 hK2 => ?_
  refine T.region (l := [0, 1, 2, 3]) rfl ?_
  refine RN.qq rfl rfl rfl rfl (PRun.q (p_move rfl (by conv => lhs; whnf))) ?_
  refine RN.qq rfl rfl rfl rfl (PRun.q (p_len_s rfl Try.underlying9 rfl)) ?_
  refine RN.qq rfl rfl rfl rfl (PRun.q (by first | exact (p_quoN (b := 32) rfl rfl rfl (by omega)) | exact (p_quo rfl rfl rfl (by omega)))) ?_
  refine RN.qq rfl rfl rfl rfl (PRun.q (p_assign rfl (by conv => lhs; whnf))) ?_
  refine RN.nil ?_
  refine hK2 _ _ ?_
  refine T.ret ?_
  refine bodyQ_ret [] (RetRun.tmp RetRun.nil) ⟨rfl, rfl⟩ (Ent.refl _)

theorem RNew_spec (n : Nat) (hl : n ≤ 65536) : Ctr Try.prog 16 [intV n] [] (fun v Ps => v = strV (List.replicate (n * 32) 0) ∧ Ps = []) := by
  refine Ctr.of_body Try.func16 rfl (by kernel_rfl) Try.ntmps16 rfl rfl (fun Fr => ?_)
  refine T.seq fun K1 hK1 => ?_
  refine T.region (l := [0]) rfl ?_
  refine RN.qq rfl rfl rfl rfl (PRun.q (p_assign rfl (by conv => lhs; whnf))) ?_
  refine RN.nil ?_
  refine hK1 _ _ ?_
  refine T.seq fun K2 hK2 => ?_
  refine T.region (l := [0, 1, 2, 3, 4]) rfl ?_
  refine RN.qq rfl rfl rfl rfl (PRun.q (p_move rfl (by conv => lhs; whnf))) ?_
  refine RN.qq rfl rfl rfl rfl (PRun.q (by first | exact (p_mulN (b := 32) rfl rfl rfl (by omega)) | exact (p_mul rfl rfl rfl (by omega)))) ?_
  refine RN.E rfl rfl rfl rfl (by first | exact (e_makeSliceN rfl Try.underlying49 ti_5 rfl rfl rfl (by omega)) | exact (e_makeSlice rfl Try.underlying49 ti_5 rfl rfl rfl (by omega))) ?_
  rintro _ _ ⟨b5, rfl, rfl⟩
  refine RN.qq rfl rfl rfl rfl (q_bytes_str rfl Try.underlying49 Try.underlying5 Try.underlying9 rfl (i := 0) rfl (l := List.replicate (n * 32) 0) (by simp [zeros]) (by rw [List.drop_zero, List.take_of_length_le (by simp [zeros]), List.map_replicate]; simp [zeros])) ?_
  refine RN.qq rfl rfl rfl rfl (PRun.q (p_assign rfl (by conv => lhs; whnf))) ?_
  refine RN.nil ?_
  refine hK2 _ _ ?_
  refine T.ret ?_
  refine bodyQ_ret [] (RetRun.tmp RetRun.nil) ⟨rfl, rfl⟩ (Ent.drop _ _)

theorem RRead_spec (l : List UInt8) (lba n : Int) (hl : l.length ≤ 1099511627776) : Ctr Try.prog 19 [strV l, .int .i64 lba, .int .i64 n] [] (fun v Ps => v = .tuple #[strV (if Right (l.length / 32 : Nat) lba n then (l.drop (lba.toNat * 32)).take (n.toNat * 32) else []), .bool (decide (Right (l.length / 32 : Nat) lba n))] ∧ Ps = []) := by
  refine Ctr.of_body Try.func19 rfl (by kernel_rfl) Try.ntmps19 rfl rfl (fun Fr => ?_)
  refine T.seq fun K1 hK1 => ?_
  refine T.region (l := [0, 1]) rfl ?_
  refine RN.qq rfl rfl rfl rfl (PRun.q (p_assign rfl (by conv => lhs; whnf))) ?_
  refine RN.qq rfl rfl rfl rfl (PRun.q (p_assign rfl (by conv => lhs; whnf))) ?_
  refine RN.nil ?_
  refine hK1 _ _ ?_
  refine T.seq fun K2 hK2 => ?_
  refine T.seq fun K3 hK3 => ?_
  refine T.region (l := [0, 1, 2, 3, 4, 5]) rfl ?_
  refine RN.qq rfl rfl rfl rfl (PRun.q (p_move rfl (by conv => lhs; whnf))) ?_
  refine RN.C [] rfl rfl rfl rfl (c_call rfl rfl) (Cap_spec l hl) rfl ?_
  rintro _ _ ⟨rfl, rfl⟩
  refine RN.qq rfl rfl rfl rfl (PRun.q (p_move rfl (by conv => lhs; whnf))) ?_
  refine RN.qq rfl rfl rfl rfl (PRun.q (p_move rfl (by conv => lhs; whnf))) ?_
  refine RN.C [] rfl rfl rfl rfl (c_call rfl rfl) (Right9_spec (l.length / 32 : Nat) lba n (by omega)) rfl ?_
  rintro _ _ ⟨rfl, rfl⟩
  refine RN.qq rfl rfl rfl rfl (PRun.q (by first | exact (p_not_dec rfl rfl) | exact (p_not rfl rfl))) ?_
  refine RN.nil ?_
  refine hK3 _ _ ?_
  first | refine T.cond_dec rfl (fun h13 => ?_) (fun h13 => ?_) | refine T.cond rfl (fun h13 => ?_) (fun h13 => ?_)
  ·
    have hR : ¬ Right (l.length / 32 : Nat) lba n := h13
    refine T.seq fun K4 hK4 => ?_
    refine T.region (l := [0, 1]) rfl ?_
    refine RN.qq rfl rfl rfl rfl (PRun.q (p_assign rfl (by conv => lhs; whnf))) ?_
    refine RN.qq rfl rfl rfl rfl (PRun.q (p_assign rfl (by conv => lhs; whnf))) ?_
    refine RN.nil ?_
    refine hK4 _ _ ?_
    refine T.ret ?_
    refine Post.seq_r ?_
    refine bodyQ_ret [] (RetRun.tmp (RetRun.tmp RetRun.nil)) ⟨by rw [if_neg hR, decide_eq_false hR]; rfl, rfl⟩ (Ent.refl _)
  ·
    have hR : Right (l.length / 32 : Nat) lba n := Classical.not_not.1 h13
    have hR2 := hR
    unfold Right at hR2
    obtain ⟨lb, rfl⟩ := Int.eq_ofNat_of_zero_le hR2.2.2.1
    obtain ⟨nn, rfl⟩ := Int.eq_ofNat_of_zero_le (show 0 ≤ n by omega)
    refine T.skip ?_
    refine hK2 _ _ ?_
    refine T.seq fun K5 hK5 => ?_
    refine T.region (l := [0, 1, 2, 3, 4, 5, 6, 7, 8, 9]) rfl ?_
    refine RN.qq rfl rfl rfl rfl (PRun.q (p_move rfl (by conv => lhs; whnf))) ?_
    refine RN.qq rfl rfl rfl rfl (PRun.q (p_move rfl (by conv => lhs; whnf))) ?_
    refine RN.qq rfl rfl rfl rfl (PRun.q (by first | exact (p_mulN (b := 32) rfl rfl rfl (by omega)) | exact (p_mul rfl rfl rfl (by omega)))) ?_
    refine RN.qq rfl rfl rfl rfl (PRun.q (p_move rfl (by conv => lhs; whnf))) ?_
    refine RN.qq rfl rfl rfl rfl (PRun.q (p_move rfl (by conv => lhs; whnf))) ?_
    refine RN.qq rfl rfl rfl rfl (PRun.q (by first | exact (p_addN rfl rfl rfl (by omega)) | exact (p_add rfl rfl rfl (by omega)))) ?_
    refine RN.qq rfl rfl rfl rfl (PRun.q (by first | exact (p_mulN (b := 32) rfl rfl rfl (by omega)) | exact (p_mul rfl rfl rfl (by omega)))) ?_
    refine RN.qq rfl rfl rfl rfl (PRun.q (by first | exact (p_sliceN_s rfl Try.underlying9 rfl rfl rfl (by omega)) | exact (p_slice_s rfl Try.underlying9 rfl rfl rfl (by omega)))) ?_
    refine RN.qq rfl rfl rfl rfl (PRun.q (p_assign rfl (by conv => lhs; whnf))) ?_
    refine RN.qq rfl rfl rfl rfl (PRun.q (p_assign rfl (by conv => lhs; whnf))) ?_
    refine RN.nil ?_
    refine hK5 _ _ ?_
    refine T.ret ?_
    refine bodyQ_ret [] (RetRun.tmp (RetRun.tmp RetRun.nil)) ⟨by rw [if_pos hR, decide_eq_true hR, Int.toNat_natCast, Int.toNat_natCast, List.take_drop, ← Nat.add_mul]; rfl, rfl⟩ (Ent.refl _)

theorem RWrite_spec (l : List UInt8) (lba n : Int) (data : List UInt8) (hl : l.length ≤ 1099511627776) (hd : data.length ≤ 140737488351232) : Ctr Try.prog 18 [strV l, .int .i64 lba, .int .i64 n, strV data] [] (fun v Ps => v = .tuple #[strV (if Right (l.length / 32 : Nat) lba n then l.take (lba.toNat * 32) ++ padN (n.toNat * 32) data ++ l.drop ((lba.toNat + n.toNat) * 32) else l), .bool (decide (Right (l.length / 32 : Nat) lba n))] ∧ Ps = []) := by
  refine Ctr.of_body Try.func18 rfl (by kernel_rfl) Try.ntmps18 rfl rfl (fun Fr => ?_)
  refine T.seq fun K1 hK1 => ?_
  refine T.region (l := [0, 1]) rfl ?_
  refine RN.qq rfl rfl rfl rfl (PRun.q (p_assign rfl (by conv => lhs; whnf))) ?_
  refine RN.qq rfl rfl rfl rfl (PRun.q (p_assign rfl (by conv => lhs; whnf))) ?_
  refine RN.nil ?_
  refine hK1 _ _ ?_
  refine T.seq fun K2 hK2 => ?_
  refine T.seq fun K3 hK3 => ?_
  refine T.region (l := [0, 1, 2, 3, 4, 5]) rfl ?_
  refine RN.qq rfl rfl rfl rfl (PRun.q (p_move rfl (by conv => lhs; whnf))) ?_
  refine RN.C [] rfl rfl rfl rfl (c_call rfl rfl) (Cap_spec l hl) rfl ?_
  rintro _ _ ⟨rfl, rfl⟩
  refine RN.qq rfl rfl rfl rfl (PRun.q (p_move rfl (by conv => lhs; whnf))) ?_
  refine RN.qq rfl rfl rfl rfl (PRun.q (p_move rfl (by conv => lhs; whnf))) ?_
  refine RN.C [] rfl rfl rfl rfl (c_call rfl rfl) (Right9_spec (l.length / 32 : Nat) lba n (by omega)) rfl ?_
  rintro _ _ ⟨rfl, rfl⟩
  refine RN.qq rfl rfl rfl rfl (PRun.q (by first | exact (p_not_dec rfl rfl) | exact (p_not rfl rfl))) ?_
  refine RN.nil ?_
  refine hK3 _ _ ?_
  first | refine T.cond_dec rfl (fun h17 => ?_) (fun h17 => ?_) | refine T.cond rfl (fun h17 => ?_) (fun h17 => ?_)
  ·
    have hR : ¬ Right (l.length / 32 : Nat) lba n := h17
    refine T.seq fun K4 hK4 => ?_
    refine T.region (l := [0, 1, 2]) rfl ?_
    refine RN.qq rfl rfl rfl rfl (PRun.q (p_move rfl (by conv => lhs; whnf))) ?_
    refine RN.qq rfl rfl rfl rfl (PRun.q (p_assign rfl (by conv => lhs; whnf))) ?_
    refine RN.qq rfl rfl rfl rfl (PRun.q (p_assign rfl (by conv => lhs; whnf))) ?_
    refine RN.nil ?_
    refine hK4 _ _ ?_
    refine T.ret ?_
    refine Post.seq_r ?_
    refine bodyQ_ret [] (RetRun.tmp (RetRun.tmp RetRun.nil)) ⟨by rw [if_neg hR, decide_eq_false hR]; rfl, rfl⟩ (Ent.refl _)
  ·
    have hR : Right (l.length / 32 : Nat) lba n := Classical.not_not.1 h17
    have hR2 := hR
    unfold Right at hR2
    obtain ⟨lb, rfl⟩ := Int.eq_ofNat_of_zero_le hR2.2.2.1
    obtain ⟨nn, rfl⟩ := Int.eq_ofNat_of_zero_le (show 0 ≤ n by omega)
    refine T.skip ?_
    refine hK2 _ _ ?_
    refine T.seq fun K5 hK5 => ?_
    refine T.region (l := [0, 1, 2, 3]) rfl ?_
    refine RN.qq rfl rfl rfl rfl (PRun.q (p_move rfl (by conv => lhs; whnf))) ?_
    refine RN.qq rfl rfl rfl rfl (PRun.q (by first | exact (p_mulN (b := 32) rfl rfl rfl (by omega)) | exact (p_mul rfl rfl rfl (by omega)))) ?_
    refine RN.E rfl rfl rfl rfl (by first | exact (e_makeSliceN rfl Try.underlying49 ti_5 rfl rfl rfl (by omega)) | exact (e_makeSlice rfl Try.underlying49 ti_5 rfl rfl rfl (by omega))) ?_
    rintro _ _ ⟨b21, rfl, rfl⟩
    refine RN.qq rfl rfl rfl rfl (PRun.q (p_assign rfl (by conv => lhs; whnf))) ?_
    refine RN.nil ?_
    refine hK5 _ _ ?_
    refine T.seq fun K6 hK6 => ?_
    refine T.seq fun K7 hK7 => ?_
    refine T.region (l := [0]) rfl ?_
    refine RN.qq rfl rfl rfl rfl (PRun.q (p_assign rfl (by conv => lhs; whnf))) ?_
    refine RN.nil ?_
    refine hK7 _ _ ?_
    refine T.block ?_
    refine T.loop (G := Nat) (fun i => i ≤ nn * 32 ∧ i ≤ data.length) (fun i => [(0, strV l), (1, .int .i64 lb), (2, .int .i64 nn), (3, strV data), (10, slc b21 0 (nn * 32) (nn * 32)), (11, intV i)]) (fun i => [row b21 5 ((data.take i).map u8V ++ List.replicate (nn * 32 - i) (u8V 0)), Fr]) (fun i => nn * 32 - i) 0 ⟨by omega, by omega⟩ (LiveIs.cons rfl (LiveIs.cons rfl (LiveIs.cons rfl (LiveIs.cons rfl (LiveIs.cons rfl (LiveIs.cons rfl LiveIs.nil)))))) ?_ ?_
    · refine Ent.of_eq ?_
      simp [zeros]
      rfl
    rintro i e8 ⟨hi, hdi⟩
    refine T.seq fun K9 hK9 => ?_
    refine T.seq fun K10 hK10 => ?_
    refine T.region (l := [0, 1, 2, 3, 4, 5, 6, 7, 8, 9]) rfl ?_
    refine RN.qq rfl rfl rfl rfl (PRun.q (p_move rfl (by conv => lhs; whnf))) ?_
    refine RN.qq rfl rfl rfl rfl (PRun.q (p_move rfl (by conv => lhs; whnf))) ?_
    refine RN.qq rfl rfl rfl rfl (PRun.q (p_len rfl Try.underlying49 rfl)) ?_
    refine RN.qq rfl rfl rfl rfl (PRun.q (p_lss rfl rfl rfl)) ?_
    refine RN.qq rfl rfl rfl rfl (PRun.q (p_move rfl (by conv => lhs; whnf))) ?_
    first | refine RN.split_dec 26 rfl (fun h26 => ?_) (fun h26 => ?_) | refine RN.split 26 rfl (fun h26 => ?_) (fun h26 => ?_)
    ·
      have hi1 : i < nn * 32 := by omega
      refine RN.qq rfl rfl rfl rfl (PRun.q (p_move rfl (by conv => lhs; whnf))) ?_
      refine RN.qq rfl rfl rfl rfl (PRun.q (p_move rfl (by conv => lhs; whnf))) ?_
      refine RN.qq rfl rfl rfl rfl (PRun.q (p_len_s rfl Try.underlying9 rfl)) ?_
      refine RN.qq rfl rfl rfl rfl (PRun.q (p_lss rfl rfl rfl)) ?_
      refine RN.qq rfl rfl rfl rfl (PRun.q (p_pick_t rfl rfl (by conv => lhs; whnf))) ?_
      refine RN.nil ?_
      refine hK10 _ _ ?_
      first | refine T.cond_dec rfl (fun h31 => ?_) (fun h31 => ?_) | refine T.cond rfl (fun h31 => ?_) (fun h31 => ?_)
      ·
        have hi2 : i < data.length := by omega
        refine T.skip ?_
        refine hK9 _ _ ?_
        refine T.seq fun K11 hK11 => ?_
        refine T.block ?_
        refine T.region (l := [0, 1, 2, 3, 4, 5, 6]) rfl ?_
        refine RN.qq rfl rfl rfl rfl (PRun.q (p_move rfl (by conv => lhs; whnf))) ?_
        refine RN.qq rfl rfl rfl rfl (PRun.q (p_move rfl (by conv => lhs; whnf))) ?_
        refine RN.qq rfl rfl rfl rfl (PRun.q (p_move rfl (by conv => lhs; whnf))) ?_
        refine RN.qq rfl rfl rfl rfl (PRun.q (p_move rfl (by conv => lhs; whnf))) ?_
        refine RN.qq rfl rfl rfl rfl (PRun.q (by first | exact (p_indexN_s rfl Try.underlying9 rfl rfl (List.getElem?_eq_getElem hi2)) | exact (p_index_s rfl Try.underlying9 rfl rfl (List.getElem?_eq_getElem hi2)))) ?_
        refine RN.qq rfl rfl rfl rfl (PRun.q (by first | exact (p_indexAddr1N rfl Try.underlying49 ts_5 rfl rfl (by omega)) | exact (p_indexAddr1 rfl Try.underlying49 ts_5 rfl rfl (by omega)))) ?_
        refine RN.EN rfl rfl rfl (by first | exact (e_store rfl ts_5 rfl (by conv => lhs; whnf) (by first | rfl | assumption) (i := 0) rfl (by simp; omega)) | exact (e_store rfl ts_5 rfl (by conv => lhs; whnf) (by first | rfl | assumption) (i := 1) rfl (by simp; omega)) | exact (e_store rfl ts_5 rfl (by conv => lhs; whnf) (by first | rfl | assumption) (i := 2) rfl (by simp; omega)) | exact (e_store rfl ts_5 rfl (by conv => lhs; whnf) (by first | rfl | assumption) (i := 3) rfl (by simp; omega)) | exact (e_store rfl ts_5 rfl (by conv => lhs; whnf) (by first | rfl | assumption) (i := 4) rfl (by simp; omega))) ?_
        rintro _ _ ⟨rfl, rfl⟩
        refine RN.nil ?_
        refine hK11 _ _ ?_
        refine T.region (l := [0, 1, 2]) rfl ?_
        refine RN.qq rfl rfl rfl rfl (PRun.q (p_move rfl (by conv => lhs; whnf))) ?_
        refine RN.qq rfl rfl rfl rfl (PRun.q (by first | exact (p_addN (b := 1) rfl rfl rfl (by omega)) | exact (p_add rfl rfl rfl (by omega)))) ?_
        refine RN.qq rfl rfl rfl rfl (PRun.q (p_assign rfl (by conv => lhs; whnf))) ?_
        refine RN.nil ?_
        refine ⟨i + 1, ⟨by omega, by omega⟩, (by omega), (LiveIs.cons rfl (LiveIs.cons rfl (LiveIs.cons rfl (LiveIs.cons rfl (LiveIs.cons rfl (LiveIs.cons rfl LiveIs.nil)))))), ?_⟩
        exact Ent.of_eq (by simp only [setN]; rw [pad_set hi2 hi1])
      ·
        have hx := pad_all (data := data) (i := i) (m := nn * 32) (by omega) hi hdi
        refine T.exit ?_
        refine Post.seq_x ?_
        refine Post.seq_x ?_
        refine Post.block_hit ?_
        refine hK6 _ _ ?_
        refine T.seq fun K12 hK12 => ?_
        refine T.regionD (z := 16) (Bs := _) (l := [(0, .pure), (1, .pure), (2, .pure), (3, .pure), (4, .pure), (5, .load), (6, .pure), (7, .pure), (8, .pure), (9, .pure), (10, .pure), (11, .pure), (12, .pure), (13, .pure), (14, .pure), (15, .pure)]) mixed (by kernel_rfl) (Ent.refl _) ?_
        refine RD.pp rfl rfl rfl rfl (p_move rfl (by conv => lhs; whnf)) ?_
        refine RD.pp rfl rfl rfl rfl (p_move rfl (by conv => lhs; whnf)) ?_
        refine RD.pp rfl rfl rfl rfl (by first | exact (p_mulN (b := 32) rfl rfl rfl (by omega)) | exact (p_mul rfl rfl rfl (by omega))) ?_
        refine RD.pp rfl rfl rfl rfl (by first | exact (p_slice_s_hi rfl Try.underlying9 rfl rfl (by omega)) | exact (p_sliceN_s (l := 0) rfl Try.underlying9 rfl rfl rfl (by omega)) | exact (p_slice_s rfl Try.underlying9 rfl rfl rfl (by omega))) ?_
        refine RD.pp rfl rfl rfl rfl (p_move rfl (by conv => lhs; whnf)) ?_
        refine RD.qq rfl rfl rfl rfl (q_bytes_str rfl Try.underlying49 Try.underlying5 Try.underlying9 rfl (i := 0) rfl (l := padN (nn * 32) data) (by simp; omega) (by rw [List.drop_zero, hx, List.take_of_length_le (by simp [padN_length])])) (Ent.refl _) ?_
        refine RD.pp rfl rfl rfl rfl (p_sadd rfl rfl rfl (by simp [padN_length]; omega)) ?_
        refine RD.pp rfl rfl rfl rfl (p_move rfl (by conv => lhs; whnf)) ?_
        refine RD.pp rfl rfl rfl rfl (p_move rfl (by conv => lhs; whnf)) ?_
        refine RD.pp rfl rfl rfl rfl (p_move rfl (by conv => lhs; whnf)) ?_
        refine RD.pp rfl rfl rfl rfl (by first | exact (p_addN rfl rfl rfl (by omega)) | exact (p_add rfl rfl rfl (by omega))) ?_
        refine RD.pp rfl rfl rfl rfl (by first | exact (p_mulN (b := 32) rfl rfl rfl (by omega)) | exact (p_mul rfl rfl rfl (by omega))) ?_
        refine RD.pp rfl rfl rfl rfl (by first | exact (p_slice_s_lo rfl Try.underlying9 rfl rfl (by omega)) | exact (p_sliceN_s rfl Try.underlying9 rfl rfl rfl (by omega)) | exact (p_slice_s rfl Try.underlying9 rfl rfl rfl (by omega))) ?_
        refine RD.pp rfl rfl rfl rfl (p_sadd rfl rfl rfl (by simp [padN_length]; omega)) ?_
        refine RD.pp rfl rfl rfl rfl (p_assign rfl (by conv => lhs; whnf)) ?_
        refine RD.pp rfl rfl rfl rfl (p_assign rfl (by conv => lhs; whnf)) ?_
        refine RD.nil ?_
        refine hK12 _ _ ?_
        refine T.ret ?_
        refine bodyQ_ret [] (RetRun.tmp (RetRun.tmp RetRun.nil)) ⟨by rw [if_pos hR, decide_eq_true hR, Int.toNat_natCast, Int.toNat_natCast]; rfl, rfl⟩ (Ent.drop _ _)
    ·
      have hx := pad_all (data := data) (i := i) (m := nn * 32) (by omega) hi hdi
      refine RN.O rfl rfl rfl rfl ?_
      refine RN.O rfl rfl rfl rfl ?_
      refine RN.O rfl rfl rfl rfl ?_
      refine RN.O rfl rfl rfl rfl ?_
      refine RN.qq rfl rfl rfl rfl (PRun.q (p_pick_f rfl rfl (by conv => lhs; whnf))) ?_
      refine RN.nil ?_
      refine hK10 _ _ ?_
      refine T.cond_f rfl ?_
      refine T.exit ?_
      refine Post.seq_x ?_
      refine Post.seq_x ?_
      refine Post.block_hit ?_
      refine hK6 _ _ ?_
      refine T.seq fun K13 hK13 => ?_
      refine T.regionD (z := 16) (Bs := _) (l := [(0, .pure), (1, .pure), (2, .pure), (3, .pure), (4, .pure), (5, .load), (6, .pure), (7, .pure), (8, .pure), (9, .pure), (10, .pure), (11, .pure), (12, .pure), (13, .pure), (14, .pure), (15, .pure)]) mixed (by kernel_rfl) (Ent.refl _) ?_
      refine RD.pp rfl rfl rfl rfl (p_move rfl (by conv => lhs; whnf)) ?_
      refine RD.pp rfl rfl rfl rfl (p_move rfl (by conv => lhs; whnf)) ?_
      refine RD.pp rfl rfl rfl rfl (by first | exact (p_mulN (b := 32) rfl rfl rfl (by omega)) | exact (p_mul rfl rfl rfl (by omega))) ?_
      refine RD.pp rfl rfl rfl rfl (by first | exact (p_slice_s_hi rfl Try.underlying9 rfl rfl (by omega)) | exact (p_sliceN_s (l := 0) rfl Try.underlying9 rfl rfl rfl (by omega)) | exact (p_slice_s rfl Try.underlying9 rfl rfl rfl (by omega))) ?_
      refine RD.pp rfl rfl rfl rfl (p_move rfl (by conv => lhs; whnf)) ?_
      refine RD.qq rfl rfl rfl rfl (q_bytes_str rfl Try.underlying49 Try.underlying5 Try.underlying9 rfl (i := 0) rfl (l := padN (nn * 32) data) (by simp; omega) (by rw [List.drop_zero, hx, List.take_of_length_le (by simp [padN_length])])) (Ent.refl _) ?_
      refine RD.pp rfl rfl rfl rfl (p_sadd rfl rfl rfl (by simp [padN_length]; omega)) ?_
      refine RD.pp rfl rfl rfl rfl (p_move rfl (by conv => lhs; whnf)) ?_
      refine RD.pp rfl rfl rfl rfl (p_move rfl (by conv => lhs; whnf)) ?_
      refine RD.pp rfl rfl rfl rfl (p_move rfl (by conv => lhs; whnf)) ?_
      refine RD.pp rfl rfl rfl rfl (by first | exact (p_addN rfl rfl rfl (by omega)) | exact (p_add rfl rfl rfl (by omega))) ?_
      refine RD.pp rfl rfl rfl rfl (by first | exact (p_mulN (b := 32) rfl rfl rfl (by omega)) | exact (p_mul rfl rfl rfl (by omega))) ?_
      refine RD.pp rfl rfl rfl rfl (by first | exact (p_slice_s_lo rfl Try.underlying9 rfl rfl (by omega)) | exact (p_sliceN_s rfl Try.underlying9 rfl rfl rfl (by omega)) | exact (p_slice_s rfl Try.underlying9 rfl rfl rfl (by omega))) ?_
      refine RD.pp rfl rfl rfl rfl (p_sadd rfl rfl rfl (by simp [padN_length]; omega)) ?_
      refine RD.pp rfl rfl rfl rfl (p_assign rfl (by conv => lhs; whnf)) ?_
      refine RD.pp rfl rfl rfl rfl (p_assign rfl (by conv => lhs; whnf)) ?_
      refine RD.nil ?_
      refine hK13 _ _ ?_
      refine T.ret ?_
      refine bodyQ_ret [] (RetRun.tmp (RetRun.tmp RetRun.nil)) ⟨by rw [if_pos hR, decide_eq_true hR, Int.toNat_natCast, Int.toNat_natCast]; rfl, rfl⟩ (Ent.drop _ _)

end Go.Proofs.Yticfabhcfdmbjaa
