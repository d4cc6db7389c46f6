/-
  Walks of package model.
-/
import Derived.Test.YticfabhcfdmbjaaYtM2
namespace Go.Proofs.Yticfabhcfdmbjaa
open Go Go.Sl Go.Proofs
set_option maxRecDepth 20000
open Go.Mo
theorem Read_spec (a p cap : Nat) (ds : List Sec) (rest : List Value) (lba n : Int) (hok : ∀ x ∈ ds, x.ok) (hl : ds.length ≤ 512) (hcap : ds.length ≤ cap) : Ctr Try.prog 13 [ptr a 0, .int .i64 lba, .int .i64 n] [row a 75 [slc p 0 ds.length cap], row p 49 (ds.map Sec.hdr ++ rest), sep (ds.map (Sec.own 5))] (fun v Ps => v = .tuple #[strV (if Right ds.length lba n then cat ((ds.drop lba.toNat).take n.toNat) else []), .int .i64 (if Right ds.length lba n then 0 else 1)] ∧ Ps = arrR 75 49 5 a p cap ds rest) := by
  refine Ctr.of_body Try.func13 rfl (by kernel_rfl) Try.ntmps13 rfl rfl (fun Fr => ?_)
  refine T.seq fun K1 hK1 => ?_
  refine T.region (l := [0, 1]) rfl ?_
  refine RN.qq rfl rfl rfl rfl (PRun.q (p_assign rfl (by conv => lhs; whnf))) ?_
  refine RN.qq rfl rfl rfl rfl (PRun.q (p_assign rfl (by conv => lhs; whnf))) ?_
  refine RN.nil ?_
  refine hK1 _ _ ?_
  refine T.seq fun K2 hK2 => ?_
  refine T.seq fun K3 hK3 => ?_
  refine T.region (l := [0, 1, 2, 3, 4]) rfl ?_
  refine RN.qq rfl rfl rfl rfl (PRun.q (p_move rfl (by conv => lhs; whnf))) ?_
  refine RN.qq rfl rfl rfl rfl (PRun.q (p_move rfl (by conv => lhs; whnf))) ?_
  refine RN.qq rfl rfl rfl rfl (PRun.q (p_move rfl (by conv => lhs; whnf))) ?_
  refine RN.C [0] rfl rfl rfl rfl (c_call rfl rfl) (right_spec a lba n _ ds.length cap (by omega)) rfl ?_
  rintro _ _ ⟨rfl, rfl⟩
  refine RN.qq rfl rfl rfl rfl (PRun.q (by first | exact (p_not_dec rfl rfl) | exact (p_not rfl rfl))) ?_
  refine RN.nil ?_
  refine hK3 _ _ ?_
  first | refine T.cond_dec rfl (fun h12 => ?_) (fun h12 => ?_) | refine T.cond rfl (fun h12 => ?_) (fun h12 => ?_)
  ·
    have hR : ¬ Right ds.length lba n := h12
    refine T.seq fun K4 hK4 => ?_
    refine T.region (l := [0, 1]) rfl ?_
    refine RN.qq rfl rfl rfl rfl (PRun.q (p_assign rfl (by conv => lhs; whnf))) ?_
    refine RN.qq rfl rfl rfl rfl (PRun.q (p_assign rfl (by conv => lhs; whnf))) ?_
    refine RN.nil ?_
    refine hK4 _ _ ?_
    refine T.ret ?_
    refine Post.seq_r ?_
    refine bodyQ_ret (arrR 75 49 5 a p cap ds rest) (RetRun.tmp (RetRun.tmp RetRun.nil)) ⟨by rw [if_neg hR, if_neg hR]; rfl, rfl⟩ (Ent.refl _)
  ·
    have hR : Right ds.length lba n := Classical.not_not.1 h12
    have hR2 := hR
    unfold Right at hR2
    obtain ⟨lb, rfl⟩ := Int.eq_ofNat_of_zero_le hR2.2.2.1
    obtain ⟨nn, rfl⟩ := Int.eq_ofNat_of_zero_le (show 0 ≤ n by omega)
    have hlen : ((ds.drop lb).take nn).length = nn := by simp; omega
    have hmid := mid_eq ds lb nn
    have hcatl := cat_length (ds := (ds.drop lb).take nn) (fun x hx => hok x (List.mem_of_mem_drop (List.mem_of_mem_take hx)))
    refine T.skip ?_
    refine hK2 _ _ ?_
    refine T.seq fun K5 hK5 => ?_
    refine T.region (l := [0, 1, 2, 3, 4, 5, 6, 7, 8, 9, 10, 11, 12]) rfl ?_
    refine RN.qq rfl rfl rfl rfl (PRun.q (p_move rfl (by conv => lhs; whnf))) ?_
    refine RN.qq rfl rfl rfl rfl (PRun.q (p_nilCheck rfl rfl)) ?_
    refine RN.qq rfl rfl rfl rfl (PRun.q (p_fieldAddr rfl fa_75_0 rfl)) ?_
    refine RN.qq rfl rfl rfl rfl (by first | exact (q_load rfl sc_73 rfl (i := 0) rfl rfl) | exact (q_load rfl sc_73 rfl (i := 1) rfl rfl) | exact (q_load rfl sc_73 rfl (i := 2) rfl rfl) | exact (q_load rfl sc_73 rfl (i := 3) rfl rfl) | exact (q_load rfl sc_73 rfl (i := 4) rfl rfl)) ?_
    refine RN.qq rfl rfl rfl rfl (PRun.q (p_move rfl (by conv => lhs; whnf))) ?_
    refine RN.qq rfl rfl rfl rfl (PRun.q (p_move rfl (by conv => lhs; whnf))) ?_
    refine RN.qq rfl rfl rfl rfl (PRun.q (p_move rfl (by conv => lhs; whnf))) ?_
    refine RN.qq rfl rfl rfl rfl (PRun.q (by first | exact (p_addN rfl rfl rfl (by omega)) | exact (p_add rfl rfl rfl (by omega)))) ?_
    refine RN.qq rfl rfl rfl rfl (PRun.q (by first | exact (p_slice_lh rfl Try.underlying73 ts_49 rfl rfl rfl (by omega)) | exact (p_sliceN rfl Try.underlying73 ts_49 rfl rfl rfl (by omega)) | exact (p_slice rfl Try.underlying73 ts_49 rfl rfl rfl (by omega)))) ?_
    refine RN.ent (Hs' := [row a 75 [slc p 0 ds.length cap], row p 49 (ds.map Sec.hdr ++ rest), sep (((ds.drop lb).take nn).map (Sec.own 5)), sep ((ds.take lb ++ ds.drop (lb + nn)).map (Sec.own 5)), Fr]) ?_ ?_
    · refine Ent.cons (Ent.refl _) (Ent.cons (Ent.refl _) ?_)
      have := own_mid (TB := 5) (A := ds.take lb) (B := (ds.drop lb).take nn) (C := ds.drop (lb + nn)) (R := [Fr])
      rwa [← hmid] at this
    have hs21 : slc p (0 + lb * 1) (lb + nn - lb) (cap - lb) = slc p (0 + lb) ((ds.drop lb).take nn).length (cap - lb) := by rw [hlen, Nat.mul_one, Nat.add_sub_cancel_left]
    refine RN.known 21 rfl hs21 ?_
    refine RN.C [1, 1] rfl rfl rfl rfl (c_call rfl rfl) (Join_spec p (0 + lb) (cap - lb) ((ds.drop lb).take nn) (ds.map Sec.hdr ++ rest) (fun x hx => hok x (List.mem_of_mem_drop (List.mem_of_mem_take hx))) (by rw [hlen]; omega) (by rw [hlen]; omega) (by intro i h; simp only [List.length_take, List.length_drop] at h; rw [Nat.zero_add, List.getElem?_append_left (by simp; omega)]; simp [show lb + i < ds.length from by omega])) rfl ?_
    rintro _ _ ⟨b22, cap22, rest22, rfl, rfl⟩
    refine RN.qq rfl rfl rfl rfl (q_bytes_str rfl Try.underlying49 Try.underlying5 Try.underlying9 rfl (i := 0) rfl (by simp [hcatl]) (by rw [List.drop_zero, List.take_left' (by rw [List.length_map, hcatl])])) ?_
    refine RN.qq rfl rfl rfl rfl (PRun.q (p_assign rfl (by conv => lhs; whnf))) ?_
    refine RN.qq rfl rfl rfl rfl (PRun.q (p_assign rfl (by conv => lhs; whnf))) ?_
    refine RN.nil ?_
    refine hK5 _ _ ?_
    refine T.ret ?_
    refine bodyQ_ret (arrR 75 49 5 a p cap ds rest) (RetRun.tmp (RetRun.tmp RetRun.nil)) ⟨by rw [if_pos hR, if_pos hR]; rfl, rfl⟩ ?_
    refine Ent.trans (Ent.pull (is := [3, 1]) rfl) ?_
    refine Ent.cons (Ent.refl _) (Ent.cons (Ent.refl _) ?_)
    have := own_unmid (TB := 5) (A := ds.take lb) (B := (ds.drop lb).take nn) (C := ds.drop (lb + nn)) (R := [Fr])
    rw [← hmid] at this
    refine Ent.trans ?_ this
    exact Ent.pull_drop (is := [1, 1, 1]) rfl

theorem Content_spec (a p cap : Nat) (ds : List Sec) (rest : List Value) (hok : ∀ x ∈ ds, x.ok) (hl : 1 ≤ ds.length ∧ ds.length ≤ 512) (hcap : ds.length ≤ cap) : Ctr Try.prog 20 [ptr a 0] [row a 75 [slc p 0 ds.length cap], row p 49 (ds.map Sec.hdr ++ rest), sep (ds.map (Sec.own 5))] (fun v Ps => v = strV (cat ds) ∧ Ps = arrR 75 49 5 a p cap ds rest) := by
  refine Ctr.of_body Try.func20 rfl (by kernel_rfl) Try.ntmps20 rfl rfl (fun Fr => ?_)
  refine T.seq fun K1 hK1 => ?_
  refine T.region (l := [0]) rfl ?_
  refine RN.qq rfl rfl rfl rfl (PRun.q (p_assign rfl (by conv => lhs; whnf))) ?_
  refine RN.nil ?_
  refine hK1 _ _ ?_
  refine T.seq fun K2 hK2 => ?_
  refine T.region (l := [0, 1, 2, 3, 4, 5, 6]) rfl ?_
  refine RN.qq rfl rfl rfl rfl (PRun.q (p_move rfl (by conv => lhs; whnf))) ?_
  refine RN.qq rfl rfl rfl rfl (PRun.q (p_nilCheck rfl rfl)) ?_
  refine RN.qq rfl rfl rfl rfl (PRun.q (p_fieldAddr rfl fa_75_0 rfl)) ?_
  refine RN.qq rfl rfl rfl rfl (by first | exact (q_load rfl sc_73 rfl (i := 0) rfl rfl) | exact (q_load rfl sc_73 rfl (i := 1) rfl rfl) | exact (q_load rfl sc_73 rfl (i := 2) rfl rfl) | exact (q_load rfl sc_73 rfl (i := 3) rfl rfl) | exact (q_load rfl sc_73 rfl (i := 4) rfl rfl)) ?_
  refine RN.C [1, 1] rfl rfl rfl rfl (c_call rfl rfl) (Join_spec p 0 cap ds (ds.map Sec.hdr ++ rest) hok hl hcap (by intro i h; rw [Nat.zero_add, List.getElem?_append_left (by simpa using h)]; simp [h])) rfl ?_
  rintro _ _ ⟨b22, cap22, rest22, rfl, rfl⟩
  refine RN.qq rfl rfl rfl rfl (q_bytes_str rfl Try.underlying49 Try.underlying5 Try.underlying9 rfl (i := 0) rfl (by simp [cat_length hok]) (by rw [List.drop_zero, List.take_left' (by rw [List.length_map, cat_length hok])])) ?_
  refine RN.qq rfl rfl rfl rfl (PRun.q (p_assign rfl (by conv => lhs; whnf))) ?_
  refine RN.nil ?_
  refine hK2 _ _ ?_
  refine T.ret ?_
  refine bodyQ_ret (arrR 75 49 5 a p cap ds rest) (RetRun.tmp RetRun.nil) ⟨rfl, rfl⟩ (Ent.pull_drop (is := [3, 1, 1, 1]) rfl)

end Go.Proofs.Yticfabhcfdmbjaa
