/-
 The reference of told texts: walked.
-/
import Derived.Test.YtokbjejbgbdkoaaGreatDoorGYrQ2
import Derived.Test.YtokbjejbgbdkoaaGreatDoorGSl20
set_option linter.unusedVariables false
set_option linter.unusedSimpArgs false
namespace Go.Proofs.YtokbjejbgbdkoaaGreatDoor
open Go Go.Sl Go.Proofs
set_option maxRecDepth 20000
open Go.Mo Go.Proofs Go.Shelf Go.RowKit
theorem vAcc_step {v0 : Nat} {s : List UInt8} {i : Nat} (h : 1 ≤ i) : vAcc v0 s i = 64 * vAcc v0 s (i - 1) + at0 s i - 128 := by
 obtain ⟨j, rfl⟩ := Nat.exists_eq_add_of_le' h
 rfl
theorem width_le {c n v0 : Nat} (h : widthOf c n v0) : 2 ≤ n ∧ n ≤ 4 ∧ v0 < 64 := by unfold widthOf at h; omega

theorem Rune_spec (l : List UInt8) : Ctr Tryz.prog 39 [strV l] [] (fun w Ps => ∃ v n, w = .tuple #[intV v, intV n] ∧ RuneQ l v n ∧ Ps = []) := by
 refine Ctr.of_body Tryz.func39 rfl (by kernel_rfl) Tryz.ntmps39 rfl rfl (fun Fr => ?_)
 refine T.seq fun K1 hK1 => ?_
 refine T.region (l := [0, 1]) rfl ?_
 refine RN.a rfl ?_
 refine RN.a rfl ?_
 refine RN.nil ?_
 refine hK1 _ _ ?_
 refine T.seq fun K2 hK2 => ?_
 refine T.seq fun K3 hK3 => ?_
 refine T.region (l := [0, 1, 2]) rfl ?_
 refine RN.m rfl ?_
 refine RN.p rfl (p_len_s rfl Tryz.underlying9 rfl) ?_
 refine RN.p rfl (p_eql rfl rfl rfl) ?_
 refine RN.nil ?_
 refine hK3 _ _ ?_
 first | refine T.cond_dec rfl (fun h11 => ?_) (fun h11 => ?_) | refine T.cond rfl (fun h11 => ?_) (fun h11 => ?_)
 ·
  refine T.seq fun K4 hK4 => ?_
  refine T.region (l := [0, 1]) rfl ?_
  refine RN.a rfl ?_
  refine RN.a rfl ?_
  refine RN.nil ?_
  refine hK4 _ _ ?_
  refine T.ret ?_
  refine Post.seq_r ?_
  obtain rfl : l = [] := List.eq_nil_of_length_eq_zero (by omega)
  refine bodyQ_ret [] (RetRun.tmp (RetRun.tmp RetRun.nil)) ⟨0, 0, rfl, rune_nil, rfl⟩ (Ent.refl _)
 ·
  have hl0 : 0 < l.length := by omega
  have e0 : at0 l 0 = l[0].toNat := at0_get hl0
  refine T.skip ?_
  refine hK2 _ _ ?_
  refine T.seq fun K5 hK5 => ?_
  refine T.region (l := [0, 1, 2, 3]) rfl ?_
  refine RN.m rfl ?_
  refine RN.p rfl (by first | exact (p_indexN_s (n := 0) rfl Tryz.underlying9 rfl rfl (List.getElem?_eq_getElem hl0)) | exact (p_index_s rfl Tryz.underlying9 rfl rfl (List.getElem?_eq_getElem hl0))) ?_
  refine RN.p rfl (p_conv_i64 rfl Tryz.underlying5 Tryz.underlying3 rfl (by have := l[0].toNat_lt; omega)) ?_
  refine RN.a rfl ?_
  refine RN.nil ?_
  refine hK5 _ _ ?_
  refine T.seq fun K6 hK6 => ?_
  refine T.seq fun K7 hK7 => ?_
  refine T.region (l := [0, 1]) rfl ?_
  refine RN.m rfl ?_
  refine RN.p rfl (p_lss rfl rfl rfl) ?_
  refine RN.nil ?_
  refine hK7 _ _ ?_
  first | refine T.cond_dec rfl (fun h16 => ?_) (fun h16 => ?_) | refine T.cond rfl (fun h16 => ?_) (fun h16 => ?_)
  ·
   refine T.seq fun K8 hK8 => ?_
   refine T.region (l := [0, 1, 2]) rfl ?_
   refine RN.m rfl ?_
   refine RN.a rfl ?_
   refine RN.a rfl ?_
   refine RN.nil ?_
   refine hK8 _ _ ?_
   refine T.ret ?_
   refine Post.seq_r ?_
   refine bodyQ_ret [] (RetRun.tmp (RetRun.tmp RetRun.nil)) ⟨_, 1, rfl, rune_one (by omega) (by omega), rfl⟩ (Ent.refl _)
  ·
   refine T.skip ?_
   refine hK6 _ _ ?_
   refine T.seq fun K9 hK9 => ?_
   refine T.region (l := [0]) rfl ?_
   refine RN.a rfl ?_
   refine RN.nil ?_
   refine hK9 _ _ ?_
   refine T.seq fun K10 hK10 => ?_
   refine T.region (l := [0]) rfl ?_
   refine RN.a rfl ?_
   refine RN.nil ?_
   refine hK10 _ _ ?_
   refine T.cut (G := Nat × Nat) (fun ⟨n, v0⟩ => widthOf (at0 l 0) n v0) (fun ⟨n, v0⟩ => [(0, strV l), (5, intV n), (6, intV v0)]) (fun ⟨n, v0⟩ => [Fr]) ?_ ?_
   ·
    refine T.block ?_
    refine T.seq fun K12 hK12 => ?_
    refine T.region (l := [0, 1, 2, 3, 4, 5, 6]) rfl ?_
    refine RN.m rfl ?_
    refine RN.p rfl (p_geq rfl rfl rfl) ?_
    refine RN.m rfl ?_
    first | refine RN.split_dec 21 rfl (fun h21 => ?_) (fun h21 => ?_) | refine RN.split 21 rfl (fun h21 => ?_) (fun h21 => ?_)
    ·
     refine RN.m rfl ?_
     refine RN.p rfl (p_lss rfl rfl rfl) ?_
     refine RN.pt rfl ?_
     refine RN.a rfl ?_
     refine RN.nil ?_
     refine hK12 _ _ ?_
     first | refine T.cond_dec rfl (fun h18 => ?_) (fun h18 => ?_) | refine T.cond rfl (fun h18 => ?_) (fun h18 => ?_)
     ·
      refine T.seq fun K13 hK13 => ?_
      refine T.region (l := [0]) rfl ?_
      refine RN.a rfl ?_
      refine RN.nil ?_
      refine hK13 _ _ ?_
      refine T.region (l := [0, 1, 2]) rfl ?_
      refine RN.m rfl ?_
      refine RN.p rfl (by first | exact (p_subN (b := 192) rfl rfl rfl (by omega)) | exact (p_sub rfl rfl rfl (by omega))) ?_
      refine RN.a rfl ?_
      refine RN.nil ?_
      refine ⟨(2, l[0].toNat - 192), (by show widthOf (at0 l 0) 2 (l[0].toNat - 192); unfold widthOf; rw [e0]; omega), (LiveIs.cons rfl (LiveIs.cons rfl (LiveIs.cons rfl LiveIs.nil))), Ent.refl _⟩
     ·
      refine T.seq fun K14 hK14 => ?_
      refine T.region (l := [0, 1, 2, 3, 4, 5, 6]) rfl ?_
      refine RN.m rfl ?_
      refine RN.p rfl (p_geq rfl rfl rfl) ?_
      refine RN.m rfl ?_
      first | refine RN.split_dec 30 rfl (fun h30 => ?_) (fun h30 => ?_) | refine RN.split 30 rfl (fun h30 => ?_) (fun h30 => ?_)
      ·
       refine RN.m rfl ?_
       refine RN.p rfl (p_lss rfl rfl rfl) ?_
       refine RN.pt rfl ?_
       refine RN.a rfl ?_
       refine RN.nil ?_
       refine hK14 _ _ ?_
       first | refine T.cond_dec rfl (fun h27 => ?_) (fun h27 => ?_) | refine T.cond rfl (fun h27 => ?_) (fun h27 => ?_)
       ·
        refine T.seq fun K15 hK15 => ?_
        refine T.region (l := [0]) rfl ?_
        refine RN.a rfl ?_
        refine RN.nil ?_
        refine hK15 _ _ ?_
        refine T.region (l := [0, 1, 2]) rfl ?_
        refine RN.m rfl ?_
        refine RN.p rfl (by first | exact (p_subN (b := 224) rfl rfl rfl (by omega)) | exact (p_sub rfl rfl rfl (by omega))) ?_
        refine RN.a rfl ?_
        refine RN.nil ?_
        refine ⟨(3, l[0].toNat - 224), (by show widthOf (at0 l 0) 3 (l[0].toNat - 224); unfold widthOf; rw [e0]; omega), (LiveIs.cons rfl (LiveIs.cons rfl (LiveIs.cons rfl LiveIs.nil))), Ent.refl _⟩
       ·
        refine T.seq fun K16 hK16 => ?_
        refine T.region (l := [0, 1, 2, 3, 4, 5, 6]) rfl ?_
        refine RN.m rfl ?_
        refine RN.p rfl (p_geq rfl rfl rfl) ?_
        refine RN.m rfl ?_
        first | refine RN.split_dec 39 rfl (fun h39 => ?_) (fun h39 => ?_) | refine RN.split 39 rfl (fun h39 => ?_) (fun h39 => ?_)
        ·
         refine RN.m rfl ?_
         refine RN.p rfl (p_lss rfl rfl rfl) ?_
         refine RN.pt rfl ?_
         refine RN.a rfl ?_
         refine RN.nil ?_
         refine hK16 _ _ ?_
         first | refine T.cond_dec rfl (fun h36 => ?_) (fun h36 => ?_) | refine T.cond rfl (fun h36 => ?_) (fun h36 => ?_)
         ·
          refine T.seq fun K17 hK17 => ?_
          refine T.region (l := [0]) rfl ?_
          refine RN.a rfl ?_
          refine RN.nil ?_
          refine hK17 _ _ ?_
          refine T.region (l := [0, 1, 2]) rfl ?_
          refine RN.m rfl ?_
          refine RN.p rfl (by first | exact (p_subN (b := 240) rfl rfl rfl (by omega)) | exact (p_sub rfl rfl rfl (by omega))) ?_
          refine RN.a rfl ?_
          refine RN.nil ?_
          refine ⟨(4, l[0].toNat - 240), (by show widthOf (at0 l 0) 4 (l[0].toNat - 240); unfold widthOf; rw [e0]; omega), (LiveIs.cons rfl (LiveIs.cons rfl (LiveIs.cons rfl LiveIs.nil))), Ent.refl _⟩
         ·
          refine T.seq fun K18 hK18 => ?_
          refine T.region (l := [0, 1]) rfl ?_
          refine RN.a rfl ?_
          refine RN.a rfl ?_
          refine RN.nil ?_
          refine hK18 _ _ ?_
          refine T.ret ?_
          refine Post.block_r ?_
          refine Post.seq_r ?_
          refine bodyQ_ret [] (RetRun.tmp (RetRun.tmp RetRun.nil)) ⟨0, 0, rfl, (rune_none (by rw [e0]; omega) (by rw [e0]; omega) (by rw [e0]; omega) (by rw [e0]; omega)), rfl⟩ (Ent.refl _)
        ·
         refine RN.no0 rfl ?_
         refine RN.no0 rfl ?_
         refine RN.pf rfl ?_
         refine RN.a rfl ?_
         refine RN.nil ?_
         refine hK16 _ _ ?_
         refine T.cond_f rfl ?_
         refine T.seq fun K19 hK19 => ?_
         refine T.region (l := [0, 1]) rfl ?_
         refine RN.a rfl ?_
         refine RN.a rfl ?_
         refine RN.nil ?_
         refine hK19 _ _ ?_
         refine T.ret ?_
         refine Post.block_r ?_
         refine Post.seq_r ?_
         refine bodyQ_ret [] (RetRun.tmp (RetRun.tmp RetRun.nil)) ⟨0, 0, rfl, (rune_none (by rw [e0]; omega) (by rw [e0]; omega) (by rw [e0]; omega) (by rw [e0]; omega)), rfl⟩ (Ent.refl _)
      ·
       refine RN.no0 rfl ?_
       refine RN.no0 rfl ?_
       refine RN.pf rfl ?_
       refine RN.a rfl ?_
       refine RN.nil ?_
       refine hK14 _ _ ?_
       refine T.cond_f rfl ?_
       refine T.seq fun K20 hK20 => ?_
       refine T.region (l := [0, 1, 2, 3, 4, 5, 6]) rfl ?_
       refine RN.m rfl ?_
       refine RN.p rfl (p_geq rfl rfl rfl) ?_
       refine RN.m rfl ?_
       first | refine RN.split_dec 39 rfl (fun h39 => ?_) (fun h39 => ?_) | refine RN.split 39 rfl (fun h39 => ?_) (fun h39 => ?_)
       ·
        refine RN.m rfl ?_
        refine RN.p rfl (p_lss rfl rfl rfl) ?_
        refine RN.pt rfl ?_
        refine RN.a rfl ?_
        refine RN.nil ?_
        refine hK20 _ _ ?_
        first | refine T.cond_dec rfl (fun h36 => ?_) (fun h36 => ?_) | refine T.cond rfl (fun h36 => ?_) (fun h36 => ?_)
        ·
         refine T.seq fun K21 hK21 => ?_
         refine T.region (l := [0]) rfl ?_
         refine RN.a rfl ?_
         refine RN.nil ?_
         refine hK21 _ _ ?_
         refine T.region (l := [0, 1, 2]) rfl ?_
         refine RN.m rfl ?_
         refine RN.p rfl (by first | exact (p_subN (b := 240) rfl rfl rfl (by omega)) | exact (p_sub rfl rfl rfl (by omega))) ?_
         refine RN.a rfl ?_
         refine RN.nil ?_
         refine ⟨(4, l[0].toNat - 240), (by show widthOf (at0 l 0) 4 (l[0].toNat - 240); unfold widthOf; rw [e0]; omega), (LiveIs.cons rfl (LiveIs.cons rfl (LiveIs.cons rfl LiveIs.nil))), Ent.refl _⟩
        ·
         refine T.seq fun K22 hK22 => ?_
         refine T.region (l := [0, 1]) rfl ?_
         refine RN.a rfl ?_
         refine RN.a rfl ?_
         refine RN.nil ?_
         refine hK22 _ _ ?_
         refine T.ret ?_
         refine Post.block_r ?_
         refine Post.seq_r ?_
         refine bodyQ_ret [] (RetRun.tmp (RetRun.tmp RetRun.nil)) ⟨0, 0, rfl, (rune_none (by rw [e0]; omega) (by rw [e0]; omega) (by rw [e0]; omega) (by rw [e0]; omega)), rfl⟩ (Ent.refl _)
       ·
        refine RN.no0 rfl ?_
        refine RN.no0 rfl ?_
        refine RN.pf rfl ?_
        refine RN.a rfl ?_
        refine RN.nil ?_
        refine hK20 _ _ ?_
        refine T.cond_f rfl ?_
        refine T.seq fun K23 hK23 => ?_
        refine T.region (l := [0, 1]) rfl ?_
        refine RN.a rfl ?_
        refine RN.a rfl ?_
        refine RN.nil ?_
        refine hK23 _ _ ?_
        refine T.ret ?_
        refine Post.block_r ?_
        refine Post.seq_r ?_
        refine bodyQ_ret [] (RetRun.tmp (RetRun.tmp RetRun.nil)) ⟨0, 0, rfl, (rune_none (by rw [e0]; omega) (by rw [e0]; omega) (by rw [e0]; omega) (by rw [e0]; omega)), rfl⟩ (Ent.refl _)
    ·
     refine RN.no0 rfl ?_
     refine RN.no0 rfl ?_
     refine RN.pf rfl ?_
     refine RN.a rfl ?_
     refine RN.nil ?_
     refine hK12 _ _ ?_
     refine T.cond_f rfl ?_
     refine T.seq fun K24 hK24 => ?_
     refine T.region (l := [0, 1, 2, 3, 4, 5, 6]) rfl ?_
     refine RN.m rfl ?_
     refine RN.p rfl (p_geq rfl rfl rfl) ?_
     refine RN.m rfl ?_
     first | refine RN.split_dec 30 rfl (fun h30 => ?_) (fun h30 => ?_) | refine RN.split 30 rfl (fun h30 => ?_) (fun h30 => ?_)
     ·
      refine RN.m rfl ?_
      refine RN.p rfl (p_lss rfl rfl rfl) ?_
      refine RN.pt rfl ?_
      refine RN.a rfl ?_
      refine RN.nil ?_
      refine hK24 _ _ ?_
      first | refine T.cond_dec rfl (fun h27 => ?_) (fun h27 => ?_) | refine T.cond rfl (fun h27 => ?_) (fun h27 => ?_)
      ·
       refine T.seq fun K25 hK25 => ?_
       refine T.region (l := [0]) rfl ?_
       refine RN.a rfl ?_
       refine RN.nil ?_
       refine hK25 _ _ ?_
       refine T.region (l := [0, 1, 2]) rfl ?_
       refine RN.m rfl ?_
       refine RN.p rfl (by first | exact (p_subN (b := 224) rfl rfl rfl (by omega)) | exact (p_sub rfl rfl rfl (by omega))) ?_
       refine RN.a rfl ?_
       refine RN.nil ?_
       refine ⟨(3, l[0].toNat - 224), (by show widthOf (at0 l 0) 3 (l[0].toNat - 224); unfold widthOf; rw [e0]; omega), (LiveIs.cons rfl (LiveIs.cons rfl (LiveIs.cons rfl LiveIs.nil))), Ent.refl _⟩
      ·
       refine T.seq fun K26 hK26 => ?_
       refine T.region (l := [0, 1, 2, 3, 4, 5, 6]) rfl ?_
       refine RN.m rfl ?_
       refine RN.p rfl (p_geq rfl rfl rfl) ?_
       refine RN.m rfl ?_
       first | refine RN.split_dec 39 rfl (fun h39 => ?_) (fun h39 => ?_) | refine RN.split 39 rfl (fun h39 => ?_) (fun h39 => ?_)
       ·
        refine RN.m rfl ?_
        refine RN.p rfl (p_lss rfl rfl rfl) ?_
        refine RN.pt rfl ?_
        refine RN.a rfl ?_
        refine RN.nil ?_
        refine hK26 _ _ ?_
        first | refine T.cond_dec rfl (fun h36 => ?_) (fun h36 => ?_) | refine T.cond rfl (fun h36 => ?_) (fun h36 => ?_)
        ·
         refine T.seq fun K27 hK27 => ?_
         refine T.region (l := [0]) rfl ?_
         refine RN.a rfl ?_
         refine RN.nil ?_
         refine hK27 _ _ ?_
         refine T.region (l := [0, 1, 2]) rfl ?_
         refine RN.m rfl ?_
         refine RN.p rfl (by first | exact (p_subN (b := 240) rfl rfl rfl (by omega)) | exact (p_sub rfl rfl rfl (by omega))) ?_
         refine RN.a rfl ?_
         refine RN.nil ?_
         refine ⟨(4, l[0].toNat - 240), (by show widthOf (at0 l 0) 4 (l[0].toNat - 240); unfold widthOf; rw [e0]; omega), (LiveIs.cons rfl (LiveIs.cons rfl (LiveIs.cons rfl LiveIs.nil))), Ent.refl _⟩
        ·
         refine T.seq fun K28 hK28 => ?_
         refine T.region (l := [0, 1]) rfl ?_
         refine RN.a rfl ?_
         refine RN.a rfl ?_
         refine RN.nil ?_
         refine hK28 _ _ ?_
         refine T.ret ?_
         refine Post.block_r ?_
         refine Post.seq_r ?_
         refine bodyQ_ret [] (RetRun.tmp (RetRun.tmp RetRun.nil)) ⟨0, 0, rfl, (rune_none (by rw [e0]; omega) (by rw [e0]; omega) (by rw [e0]; omega) (by rw [e0]; omega)), rfl⟩ (Ent.refl _)
       ·
        refine RN.no0 rfl ?_
        refine RN.no0 rfl ?_
        refine RN.pf rfl ?_
        refine RN.a rfl ?_
        refine RN.nil ?_
        refine hK26 _ _ ?_
        refine T.cond_f rfl ?_
        refine T.seq fun K29 hK29 => ?_
        refine T.region (l := [0, 1]) rfl ?_
        refine RN.a rfl ?_
        refine RN.a rfl ?_
        refine RN.nil ?_
        refine hK29 _ _ ?_
        refine T.ret ?_
        refine Post.block_r ?_
        refine Post.seq_r ?_
        refine bodyQ_ret [] (RetRun.tmp (RetRun.tmp RetRun.nil)) ⟨0, 0, rfl, (rune_none (by rw [e0]; omega) (by rw [e0]; omega) (by rw [e0]; omega) (by rw [e0]; omega)), rfl⟩ (Ent.refl _)
     ·
      refine RN.no0 rfl ?_
      refine RN.no0 rfl ?_
      refine RN.pf rfl ?_
      refine RN.a rfl ?_
      refine RN.nil ?_
      refine hK24 _ _ ?_
      refine T.cond_f rfl ?_
      refine T.seq fun K30 hK30 => ?_
      refine T.region (l := [0, 1, 2, 3, 4, 5, 6]) rfl ?_
      refine RN.m rfl ?_
      refine RN.p rfl (p_geq rfl rfl rfl) ?_
      refine RN.m rfl ?_
      first | refine RN.split_dec 39 rfl (fun h39 => ?_) (fun h39 => ?_) | refine RN.split 39 rfl (fun h39 => ?_) (fun h39 => ?_)
      ·
       refine RN.m rfl ?_
       refine RN.p rfl (p_lss rfl rfl rfl) ?_
       refine RN.pt rfl ?_
       refine RN.a rfl ?_
       refine RN.nil ?_
       refine hK30 _ _ ?_
       first | refine T.cond_dec rfl (fun h36 => ?_) (fun h36 => ?_) | refine T.cond rfl (fun h36 => ?_) (fun h36 => ?_)
       ·
        refine T.seq fun K31 hK31 => ?_
        refine T.region (l := [0]) rfl ?_
        refine RN.a rfl ?_
        refine RN.nil ?_
        refine hK31 _ _ ?_
        refine T.region (l := [0, 1, 2]) rfl ?_
        refine RN.m rfl ?_
        refine RN.p rfl (by first | exact (p_subN (b := 240) rfl rfl rfl (by omega)) | exact (p_sub rfl rfl rfl (by omega))) ?_
        refine RN.a rfl ?_
        refine RN.nil ?_
        refine ⟨(4, l[0].toNat - 240), (by show widthOf (at0 l 0) 4 (l[0].toNat - 240); unfold widthOf; rw [e0]; omega), (LiveIs.cons rfl (LiveIs.cons rfl (LiveIs.cons rfl LiveIs.nil))), Ent.refl _⟩
       ·
        refine T.seq fun K32 hK32 => ?_
        refine T.region (l := [0, 1]) rfl ?_
        refine RN.a rfl ?_
        refine RN.a rfl ?_
        refine RN.nil ?_
        refine hK32 _ _ ?_
        refine T.ret ?_
        refine Post.block_r ?_
        refine Post.seq_r ?_
        refine bodyQ_ret [] (RetRun.tmp (RetRun.tmp RetRun.nil)) ⟨0, 0, rfl, (rune_none (by rw [e0]; omega) (by rw [e0]; omega) (by rw [e0]; omega) (by rw [e0]; omega)), rfl⟩ (Ent.refl _)
      ·
       refine RN.no0 rfl ?_
       refine RN.no0 rfl ?_
       refine RN.pf rfl ?_
       refine RN.a rfl ?_
       refine RN.nil ?_
       refine hK30 _ _ ?_
       refine T.cond_f rfl ?_
       refine T.seq fun K33 hK33 => ?_
       refine T.region (l := [0, 1]) rfl ?_
       refine RN.a rfl ?_
       refine RN.a rfl ?_
       refine RN.nil ?_
       refine hK33 _ _ ?_
       refine T.ret ?_
       refine Post.block_r ?_
       refine Post.seq_r ?_
       refine bodyQ_ret [] (RetRun.tmp (RetRun.tmp RetRun.nil)) ⟨0, 0, rfl, (rune_none (by rw [e0]; omega) (by rw [e0]; omega) (by rw [e0]; omega) (by rw [e0]; omega)), rfl⟩ (Ent.refl _)
   ·
    rintro ⟨n, v0⟩ e11 hw
    dsimp only at hw ⊢
    obtain ⟨hn2, hn4, hv0⟩ := width_le hw
    refine T.seq fun K34 hK34 => ?_
    refine T.seq fun K35 hK35 => ?_
    refine T.region (l := [0, 1, 2, 3]) rfl ?_
    refine RN.m rfl ?_
    refine RN.p rfl (p_len_s rfl Tryz.underlying9 rfl) ?_
    refine RN.m rfl ?_
    refine RN.p rfl (p_lss rfl rfl rfl) ?_
    refine RN.nil ?_
    refine hK35 _ _ ?_
    first | refine T.cond_dec rfl (fun h48 => ?_) (fun h48 => ?_) | refine T.cond rfl (fun h48 => ?_) (fun h48 => ?_)
    ·
     refine T.seq fun K36 hK36 => ?_
     refine T.region (l := [0, 1]) rfl ?_
     refine RN.a rfl ?_
     refine RN.a rfl ?_
     refine RN.nil ?_
     refine hK36 _ _ ?_
     refine T.ret ?_
     refine Post.seq_r ?_
     refine bodyQ_ret [] (RetRun.tmp (RetRun.tmp RetRun.nil)) ⟨0, 0, rfl, (rune_cut hw (k := n - 1) (by omega) (by omega) (fun g => by omega)), rfl⟩ (Ent.refl _)
    ·
     refine T.skip ?_
     refine hK34 _ _ ?_
     refine T.seq fun K37 hK37 => ?_
     refine T.seq fun K38 hK38 => ?_
     refine T.region (l := [0]) rfl ?_
     refine RN.a rfl ?_
     refine RN.nil ?_
     refine hK38 _ _ ?_
     refine T.block ?_
     refine T.loop (G := Nat) (fun i => 1 ≤ i ∧ i ≤ n ∧ Conts l i ∧ (i = 1 ∧ vAcc v0 l (i - 1) < 64 ∨ i = 2 ∧ vAcc v0 l (i - 1) < 4096 ∨ i = 3 ∧ vAcc v0 l (i - 1) < 262144 ∨ i = 4 ∧ vAcc v0 l (i - 1) < 16777216)) (fun i => [(0, strV l), (5, intV n), (6, intV (vAcc v0 l (i - 1))), (7, intV i)]) (fun i => [Fr]) (fun i => n - i) 1 ⟨Nat.le_refl _, by omega, fun k h1 h2 => by omega, .inl ⟨rfl, hv0⟩⟩ (LiveIs.cons rfl (LiveIs.cons rfl (LiveIs.cons rfl (LiveIs.cons rfl LiveIs.nil)))) (Ent.refl _) ?_
     rintro i e39 ⟨hi1, hin, hc, hb4⟩
     refine T.seq fun K40 hK40 => ?_
     refine T.seq fun K41 hK41 => ?_
     refine T.region (l := [0, 1, 2]) rfl ?_
     refine RN.m rfl ?_
     refine RN.m rfl ?_
     refine RN.p rfl (p_lss rfl rfl rfl) ?_
     refine RN.nil ?_
     refine hK41 _ _ ?_
     first | refine T.cond_dec rfl (fun h51 => ?_) (fun h51 => ?_) | refine T.cond rfl (fun h51 => ?_) (fun h51 => ?_)
     ·
      have hil : i < l.length := by omega
      have ei : at0 l i = l[i].toNat := at0_get hil
      have hdl := l[i].toNat_lt
      refine T.skip ?_
      refine hK40 _ _ ?_
      refine T.seq fun K42 hK42 => ?_
      refine T.block ?_
      refine T.seq fun K43 hK43 => ?_
      refine T.region (l := [0, 1, 2, 3, 4]) rfl ?_
      refine RN.m rfl ?_
      refine RN.m rfl ?_
      refine RN.p rfl (by first | exact (p_indexN_s rfl Tryz.underlying9 rfl rfl (List.getElem?_eq_getElem hil)) | exact (p_index_s rfl Tryz.underlying9 rfl rfl (List.getElem?_eq_getElem hil))) ?_
      refine RN.p rfl (p_conv_i64 rfl Tryz.underlying5 Tryz.underlying3 rfl (by omega)) ?_
      refine RN.a rfl ?_
      refine RN.nil ?_
      refine hK43 _ _ ?_
      refine T.seq fun K44 hK44 => ?_
      refine T.seq fun K45 hK45 => ?_
      refine T.region (l := [0, 1, 2, 3, 4, 5]) rfl ?_
      refine RN.m rfl ?_
      refine RN.p rfl (p_lss rfl rfl rfl) ?_
      refine RN.m rfl ?_
      first | refine RN.split_dec 60 rfl (fun h60 => ?_) (fun h60 => ?_) | refine RN.split 60 rfl (fun h60 => ?_) (fun h60 => ?_)
      ·
       refine RN.no0 rfl ?_
       refine RN.no0 rfl ?_
       refine RN.pt rfl ?_
       refine RN.nil ?_
       refine hK45 _ _ ?_
       refine T.cond_t rfl ?_
       refine T.seq fun K46 hK46 => ?_
       refine T.region (l := [0, 1]) rfl ?_
       refine RN.a rfl ?_
       refine RN.a rfl ?_
       refine RN.nil ?_
       refine hK46 _ _ ?_
       refine T.ret ?_
       refine Post.seq_r ?_
       refine Post.block_r ?_
       refine Post.seq_r ?_
       refine Post.seq_r ?_
       refine Post.block_r ?_
       refine Post.seq_r ?_
       refine bodyQ_ret [] (RetRun.tmp (RetRun.tmp RetRun.nil)) ⟨0, 0, rfl, (rune_cut hw (k := i) hi1 (by omega) (fun g => by rw [ei] at g; omega)), rfl⟩ (Ent.refl _)
      ·
       refine RN.m rfl ?_
       refine RN.p rfl (p_gtr rfl rfl rfl) ?_
       refine RN.pf rfl ?_
       refine RN.nil ?_
       refine hK45 _ _ ?_
       first | refine T.cond_dec rfl (fun h63 => ?_) (fun h63 => ?_) | refine T.cond rfl (fun h63 => ?_) (fun h63 => ?_)
       ·
        refine T.seq fun K47 hK47 => ?_
        refine T.region (l := [0, 1]) rfl ?_
        refine RN.a rfl ?_
        refine RN.a rfl ?_
        refine RN.nil ?_
        refine hK47 _ _ ?_
        refine T.ret ?_
        refine Post.seq_r ?_
        refine Post.block_r ?_
        refine Post.seq_r ?_
        refine Post.seq_r ?_
        refine Post.block_r ?_
        refine Post.seq_r ?_
        refine bodyQ_ret [] (RetRun.tmp (RetRun.tmp RetRun.nil)) ⟨0, 0, rfl, (rune_cut hw (k := i) hi1 (by omega) (fun g => by rw [ei] at g; omega)), rfl⟩ (Ent.refl _)
       ·
        refine T.skip ?_
        refine hK44 _ _ ?_
        refine T.region (l := [0, 1, 2, 3, 4, 5]) rfl ?_
        refine RN.m rfl ?_
        refine RN.p rfl (by first | exact (p_mulN (a := 64) rfl rfl rfl (by omega)) | exact (p_mul rfl rfl rfl (by omega))) ?_
        refine RN.m rfl ?_
        refine RN.p rfl (by first | exact (p_addN rfl rfl rfl (by omega)) | exact (p_add rfl rfl rfl (by omega))) ?_
        refine RN.p rfl (by first | exact (p_subN (b := 128) rfl rfl rfl (by omega)) | exact (p_sub rfl rfl rfl (by omega))) ?_
        refine RN.a rfl ?_
        refine RN.nil ?_
        refine hK42 _ _ ?_
        refine T.region (l := [0, 1, 2]) rfl ?_
        refine RN.m rfl ?_
        refine RN.p rfl (by first | exact (p_addN (b := 1) rfl rfl rfl (by omega)) | exact (p_add rfl rfl rfl (by omega))) ?_
        refine RN.a rfl ?_
        refine RN.nil ?_
        refine ⟨i + 1, ⟨by omega, by omega, fun k k1 k2 => by
         by_cases e : k = i
         · subst e; omega
         · exact hc k k1 (by omega), by
         rw [Nat.add_sub_cancel, vAcc_step hi1, ei]; omega⟩, (by show _ - (i + 1) < _ - i; omega), (LiveIs.cons rfl (LiveIs.cons rfl (LiveIs.cons (congrArg intV (by rw [Nat.add_sub_cancel, vAcc_step hi1, ei])) (LiveIs.cons rfl LiveIs.nil)))), Ent.refl _⟩
     ·
      have ein : i = n := by omega
      subst ein
      refine T.exit ?_
      refine Post.seq_x ?_
      refine Post.seq_x ?_
      refine Post.block_hit ?_
      refine hK37 _ _ ?_
      refine T.seq fun K48 hK48 => ?_
      refine T.seq fun K49 hK49 => ?_
      refine T.region (l := [0, 1, 2, 3, 4, 5, 6, 7, 8, 9, 10, 11, 12, 13, 14, 15, 16, 17, 18, 19, 20, 21, 22, 23, 24, 25]) rfl ?_
      refine RN.m rfl ?_
      refine RN.p rfl (p_eql rfl rfl rfl) ?_
      refine RN.m rfl ?_
      first | refine RN.split_dec 71 rfl (fun h71 => ?_) (fun h71 => ?_) | refine RN.split 71 rfl (fun h71 => ?_) (fun h71 => ?_)
      ·
       refine RN.m rfl ?_
       refine RN.p rfl (p_lss rfl rfl rfl) ?_
       refine RN.m rfl ?_
       first | refine RN.split_dec 74 rfl (fun h74 => ?_) (fun h74 => ?_) | refine RN.split 74 rfl (fun h74 => ?_) (fun h74 => ?_)
       ·
        refine RN.no0 rfl ?_
        refine RN.no0 rfl ?_
        refine RN.no0 rfl ?_
        refine RN.no0 rfl ?_
        refine RN.no0 rfl ?_
        refine RN.no0 rfl ?_
        refine RN.pt rfl ?_
        refine RN.pt rfl ?_
        refine RN.m rfl ?_
        refine RN.no0 rfl ?_
        refine RN.no0 rfl ?_
        refine RN.no0 rfl ?_
        refine RN.no0 rfl ?_
        refine RN.no0 rfl ?_
        refine RN.no0 rfl ?_
        refine RN.no0 rfl ?_
        refine RN.no0 rfl ?_
        refine RN.no0 rfl ?_
        refine RN.no0 rfl ?_
        refine RN.pt rfl ?_
        refine RN.nil ?_
        refine hK49 _ _ ?_
        refine T.cond_t rfl ?_
        refine T.seq fun K50 hK50 => ?_
        refine T.region (l := [0, 1]) rfl ?_
        refine RN.a rfl ?_
        refine RN.a rfl ?_
        refine RN.nil ?_
        refine hK50 _ _ ?_
        refine T.ret ?_
        refine Post.seq_r ?_
        refine bodyQ_ret [] (RetRun.tmp (RetRun.tmp RetRun.nil)) ⟨0, 0, rfl, ((rune_all hw (by omega) hc).1 (by omega)), rfl⟩ (Ent.refl _)
       ·
        refine RN.m rfl ?_
        refine RN.p rfl (p_geq rfl rfl rfl) ?_
        refine RN.m rfl ?_
        first | refine RN.split_dec 77 rfl (fun h77 => ?_) (fun h77 => ?_) | refine RN.split 77 rfl (fun h77 => ?_) (fun h77 => ?_)
        ·
         refine RN.m rfl ?_
         refine RN.p rfl (p_lss rfl rfl rfl) ?_
         refine RN.pt rfl ?_
         refine RN.pf rfl ?_
         refine RN.pt rfl ?_
         refine RN.m rfl ?_
         first | refine RN.split_dec 83 rfl (fun h83 => ?_) (fun h83 => ?_) | refine RN.split 83 rfl (fun h83 => ?_) (fun h83 => ?_)
         ·
          refine RN.no0 rfl ?_
          refine RN.no0 rfl ?_
          refine RN.no0 rfl ?_
          refine RN.no0 rfl ?_
          refine RN.no0 rfl ?_
          refine RN.no0 rfl ?_
          refine RN.no0 rfl ?_
          refine RN.no0 rfl ?_
          refine RN.no0 rfl ?_
          refine RN.no0 rfl ?_
          refine RN.pt rfl ?_
          refine RN.nil ?_
          refine hK49 _ _ ?_
          refine T.cond_t rfl ?_
          refine T.seq fun K51 hK51 => ?_
          refine T.region (l := [0, 1]) rfl ?_
          refine RN.a rfl ?_
          refine RN.a rfl ?_
          refine RN.nil ?_
          refine hK51 _ _ ?_
          refine T.ret ?_
          refine Post.seq_r ?_
          refine bodyQ_ret [] (RetRun.tmp (RetRun.tmp RetRun.nil)) ⟨0, 0, rfl, ((rune_all hw (by omega) hc).1 (by omega)), rfl⟩ (Ent.refl _)
         ·
          refine RN.m rfl ?_
          refine RN.p rfl (p_eql rfl rfl rfl) ?_
          refine RN.m rfl ?_
          first | refine RN.split_dec 86 rfl (fun h86 => ?_) (fun h86 => ?_) | refine RN.split 86 rfl (fun h86 => ?_) (fun h86 => ?_)
          ·
           refine RN.m rfl ?_
           refine RN.p rfl (p_lss rfl rfl rfl) ?_
           refine RN.m rfl ?_
           first | refine RN.split_dec 89 rfl (fun h89 => ?_) (fun h89 => ?_) | refine RN.split 89 rfl (fun h89 => ?_) (fun h89 => ?_)
           ·
            refine RN.no0 rfl ?_
            refine RN.no0 rfl ?_
            refine RN.pt rfl ?_
            refine RN.pt rfl ?_
            refine RN.pf rfl ?_
            refine RN.nil ?_
            refine hK49 _ _ ?_
            refine T.cond_t rfl ?_
            refine T.seq fun K52 hK52 => ?_
            refine T.region (l := [0, 1]) rfl ?_
            refine RN.a rfl ?_
            refine RN.a rfl ?_
            refine RN.nil ?_
            refine hK52 _ _ ?_
            refine T.ret ?_
            refine Post.seq_r ?_
            refine bodyQ_ret [] (RetRun.tmp (RetRun.tmp RetRun.nil)) ⟨0, 0, rfl, ((rune_all hw (by omega) hc).1 (by omega)), rfl⟩ (Ent.refl _)
           ·
            refine RN.m rfl ?_
            refine RN.p rfl (p_gtr rfl rfl rfl) ?_
            refine RN.pf rfl ?_
            refine RN.pt rfl ?_
            refine RN.pf rfl ?_
            refine RN.nil ?_
            refine hK49 _ _ ?_
            first | refine T.cond_dec rfl (fun h94 => ?_) (fun h94 => ?_) | refine T.cond rfl (fun h94 => ?_) (fun h94 => ?_)
            ·
             refine T.seq fun K53 hK53 => ?_
             refine T.region (l := [0, 1]) rfl ?_
             refine RN.a rfl ?_
             refine RN.a rfl ?_
             refine RN.nil ?_
             refine hK53 _ _ ?_
             refine T.ret ?_
             refine Post.seq_r ?_
             refine bodyQ_ret [] (RetRun.tmp (RetRun.tmp RetRun.nil)) ⟨0, 0, rfl, ((rune_all hw (by omega) hc).1 (by omega)), rfl⟩ (Ent.refl _)
            ·
             refine T.skip ?_
             refine hK48 _ _ ?_
             refine T.seq fun K54 hK54 => ?_
             refine T.region (l := [0, 1, 2, 3]) rfl ?_
             refine RN.m rfl ?_
             refine RN.m rfl ?_
             refine RN.a rfl ?_
             refine RN.a rfl ?_
             refine RN.nil ?_
             refine hK54 _ _ ?_
             refine T.ret ?_
             refine bodyQ_ret [] (RetRun.tmp (RetRun.tmp RetRun.nil)) ⟨_, _, rfl, (rune_all hw (by omega) hc).2 (by omega), rfl⟩ (Ent.refl _)
          ·
           refine RN.no0 rfl ?_
           refine RN.no0 rfl ?_
           refine RN.no0 rfl ?_
           refine RN.no0 rfl ?_
           refine RN.no0 rfl ?_
           refine RN.no0 rfl ?_
           refine RN.pf rfl ?_
           refine RN.pf rfl ?_
           refine RN.nil ?_
           refine hK49 _ _ ?_
           refine T.cond_f rfl ?_
           refine T.skip ?_
           refine hK48 _ _ ?_
           refine T.seq fun K55 hK55 => ?_
           refine T.region (l := [0, 1, 2, 3]) rfl ?_
           refine RN.m rfl ?_
           refine RN.m rfl ?_
           refine RN.a rfl ?_
           refine RN.a rfl ?_
           refine RN.nil ?_
           refine hK55 _ _ ?_
           refine T.ret ?_
           refine bodyQ_ret [] (RetRun.tmp (RetRun.tmp RetRun.nil)) ⟨_, _, rfl, (rune_all hw (by omega) hc).2 (by omega), rfl⟩ (Ent.refl _)
        ·
         refine RN.no0 rfl ?_
         refine RN.no0 rfl ?_
         refine RN.pf rfl ?_
         refine RN.pf rfl ?_
         refine RN.pt rfl ?_
         refine RN.m rfl ?_
         refine RN.m rfl ?_
         refine RN.p rfl (p_eql rfl rfl rfl) ?_
         refine RN.m rfl ?_
         first | refine RN.split_dec 86 rfl (fun h86 => ?_) (fun h86 => ?_) | refine RN.split 86 rfl (fun h86 => ?_) (fun h86 => ?_)
         ·
          refine RN.m rfl ?_
          refine RN.p rfl (p_lss rfl rfl rfl) ?_
          refine RN.m rfl ?_
          first | refine RN.split_dec 89 rfl (fun h89 => ?_) (fun h89 => ?_) | refine RN.split 89 rfl (fun h89 => ?_) (fun h89 => ?_)
          ·
           refine RN.no0 rfl ?_
           refine RN.no0 rfl ?_
           refine RN.pt rfl ?_
           refine RN.pt rfl ?_
           refine RN.pf rfl ?_
           refine RN.nil ?_
           refine hK49 _ _ ?_
           refine T.cond_t rfl ?_
           refine T.seq fun K56 hK56 => ?_
           refine T.region (l := [0, 1]) rfl ?_
           refine RN.a rfl ?_
           refine RN.a rfl ?_
           refine RN.nil ?_
           refine hK56 _ _ ?_
           refine T.ret ?_
           refine Post.seq_r ?_
           refine bodyQ_ret [] (RetRun.tmp (RetRun.tmp RetRun.nil)) ⟨0, 0, rfl, ((rune_all hw (by omega) hc).1 (by omega)), rfl⟩ (Ent.refl _)
          ·
           refine RN.m rfl ?_
           refine RN.p rfl (p_gtr rfl rfl rfl) ?_
           refine RN.pf rfl ?_
           refine RN.pt rfl ?_
           refine RN.pf rfl ?_
           refine RN.nil ?_
           refine hK49 _ _ ?_
           first | refine T.cond_dec rfl (fun h94 => ?_) (fun h94 => ?_) | refine T.cond rfl (fun h94 => ?_) (fun h94 => ?_)
           ·
            refine T.seq fun K57 hK57 => ?_
            refine T.region (l := [0, 1]) rfl ?_
            refine RN.a rfl ?_
            refine RN.a rfl ?_
            refine RN.nil ?_
            refine hK57 _ _ ?_
            refine T.ret ?_
            refine Post.seq_r ?_
            refine bodyQ_ret [] (RetRun.tmp (RetRun.tmp RetRun.nil)) ⟨0, 0, rfl, ((rune_all hw (by omega) hc).1 (by omega)), rfl⟩ (Ent.refl _)
           ·
            refine T.skip ?_
            refine hK48 _ _ ?_
            refine T.seq fun K58 hK58 => ?_
            refine T.region (l := [0, 1, 2, 3]) rfl ?_
            refine RN.m rfl ?_
            refine RN.m rfl ?_
            refine RN.a rfl ?_
            refine RN.a rfl ?_
            refine RN.nil ?_
            refine hK58 _ _ ?_
            refine T.ret ?_
            refine bodyQ_ret [] (RetRun.tmp (RetRun.tmp RetRun.nil)) ⟨_, _, rfl, (rune_all hw (by omega) hc).2 (by omega), rfl⟩ (Ent.refl _)
         ·
          refine RN.no0 rfl ?_
          refine RN.no0 rfl ?_
          refine RN.no0 rfl ?_
          refine RN.no0 rfl ?_
          refine RN.no0 rfl ?_
          refine RN.no0 rfl ?_
          refine RN.pf rfl ?_
          refine RN.pf rfl ?_
          refine RN.nil ?_
          refine hK49 _ _ ?_
          refine T.cond_f rfl ?_
          refine T.skip ?_
          refine hK48 _ _ ?_
          refine T.seq fun K59 hK59 => ?_
          refine T.region (l := [0, 1, 2, 3]) rfl ?_
          refine RN.m rfl ?_
          refine RN.m rfl ?_
          refine RN.a rfl ?_
          refine RN.a rfl ?_
          refine RN.nil ?_
          refine hK59 _ _ ?_
          refine T.ret ?_
          refine bodyQ_ret [] (RetRun.tmp (RetRun.tmp RetRun.nil)) ⟨_, _, rfl, (rune_all hw (by omega) hc).2 (by omega), rfl⟩ (Ent.refl _)
      ·
       refine RN.no0 rfl ?_
       refine RN.no0 rfl ?_
       refine RN.no0 rfl ?_
       refine RN.no0 rfl ?_
       refine RN.no0 rfl ?_
       refine RN.no0 rfl ?_
       refine RN.no0 rfl ?_
       refine RN.no0 rfl ?_
       refine RN.no0 rfl ?_
       refine RN.no0 rfl ?_
       refine RN.pf rfl ?_
       refine RN.m rfl ?_
       refine RN.m rfl ?_
       refine RN.p rfl (p_eql rfl rfl rfl) ?_
       refine RN.m rfl ?_
       first | refine RN.split_dec 86 rfl (fun h86 => ?_) (fun h86 => ?_) | refine RN.split 86 rfl (fun h86 => ?_) (fun h86 => ?_)
       ·
        refine RN.m rfl ?_
        refine RN.p rfl (p_lss rfl rfl rfl) ?_
        refine RN.m rfl ?_
        first | refine RN.split_dec 89 rfl (fun h89 => ?_) (fun h89 => ?_) | refine RN.split 89 rfl (fun h89 => ?_) (fun h89 => ?_)
        ·
         refine RN.no0 rfl ?_
         refine RN.no0 rfl ?_
         refine RN.pt rfl ?_
         refine RN.pt rfl ?_
         refine RN.pf rfl ?_
         refine RN.nil ?_
         refine hK49 _ _ ?_
         refine T.cond_t rfl ?_
         refine T.seq fun K60 hK60 => ?_
         refine T.region (l := [0, 1]) rfl ?_
         refine RN.a rfl ?_
         refine RN.a rfl ?_
         refine RN.nil ?_
         refine hK60 _ _ ?_
         refine T.ret ?_
         refine Post.seq_r ?_
         refine bodyQ_ret [] (RetRun.tmp (RetRun.tmp RetRun.nil)) ⟨0, 0, rfl, ((rune_all hw (by omega) hc).1 (by omega)), rfl⟩ (Ent.refl _)
        ·
         refine RN.m rfl ?_
         refine RN.p rfl (p_gtr rfl rfl rfl) ?_
         refine RN.pf rfl ?_
         refine RN.pt rfl ?_
         refine RN.pf rfl ?_
         refine RN.nil ?_
         refine hK49 _ _ ?_
         first | refine T.cond_dec rfl (fun h94 => ?_) (fun h94 => ?_) | refine T.cond rfl (fun h94 => ?_) (fun h94 => ?_)
         ·
          refine T.seq fun K61 hK61 => ?_
          refine T.region (l := [0, 1]) rfl ?_
          refine RN.a rfl ?_
          refine RN.a rfl ?_
          refine RN.nil ?_
          refine hK61 _ _ ?_
          refine T.ret ?_
          refine Post.seq_r ?_
          refine bodyQ_ret [] (RetRun.tmp (RetRun.tmp RetRun.nil)) ⟨0, 0, rfl, ((rune_all hw (by omega) hc).1 (by omega)), rfl⟩ (Ent.refl _)
         ·
          refine T.skip ?_
          refine hK48 _ _ ?_
          refine T.seq fun K62 hK62 => ?_
          refine T.region (l := [0, 1, 2, 3]) rfl ?_
          refine RN.m rfl ?_
          refine RN.m rfl ?_
          refine RN.a rfl ?_
          refine RN.a rfl ?_
          refine RN.nil ?_
          refine hK62 _ _ ?_
          refine T.ret ?_
          refine bodyQ_ret [] (RetRun.tmp (RetRun.tmp RetRun.nil)) ⟨_, _, rfl, (rune_all hw (by omega) hc).2 (by omega), rfl⟩ (Ent.refl _)
       ·
        refine RN.no0 rfl ?_
        refine RN.no0 rfl ?_
        refine RN.no0 rfl ?_
        refine RN.no0 rfl ?_
        refine RN.no0 rfl ?_
        refine RN.no0 rfl ?_
        refine RN.pf rfl ?_
        refine RN.pf rfl ?_
        refine RN.nil ?_
        refine hK49 _ _ ?_
        refine T.cond_f rfl ?_
        refine T.skip ?_
        refine hK48 _ _ ?_
        refine T.seq fun K63 hK63 => ?_
        refine T.region (l := [0, 1, 2, 3]) rfl ?_
        refine RN.m rfl ?_
        refine RN.m rfl ?_
        refine RN.a rfl ?_
        refine RN.a rfl ?_
        refine RN.nil ?_
        refine hK63 _ _ ?_
        refine T.ret ?_
        refine bodyQ_ret [] (RetRun.tmp (RetRun.tmp RetRun.nil)) ⟨_, _, rfl, (rune_all hw (by omega) hc).2 (by omega), rfl⟩ (Ent.refl _)

theorem RHex_walk (n v : Nat) (hn : n ≤ 8) (hv : v < 1000000000) (ih : ∀ m, m < n → ∀ u, u < 1000000000 → Ctr Tryz.prog 40 [intV u, intV m] [] (fun w Ps => w = strV (hexN u m) ∧ Ps = [])) : Ctr Tryz.prog 40 [intV v, intV n] [] (fun w Ps => w = strV (hexN v n) ∧ Ps = []) := by
 refine Ctr.of_body Tryz.func40 rfl (by kernel_rfl) Tryz.ntmps40 rfl rfl (fun Fr => ?_)
 refine T.seq fun K1 hK1 => ?_
 refine T.region (l := [0]) rfl ?_
 refine RN.a rfl ?_
 refine RN.nil ?_
 refine hK1 _ _ ?_
 refine T.seq fun K2 hK2 => ?_
 refine T.seq fun K3 hK3 => ?_
 refine T.region (l := [0, 1]) rfl ?_
 refine RN.m rfl ?_
 refine RN.p rfl (p_eql rfl rfl rfl) ?_
 refine RN.nil ?_
 refine hK3 _ _ ?_
 first | refine T.cond_dec rfl (fun h6 => ?_) (fun h6 => ?_) | refine T.cond rfl (fun h6 => ?_) (fun h6 => ?_)
 ·
  obtain rfl : n = 0 := by omega
  refine T.seq fun K4 hK4 => ?_
  refine T.region (l := [0]) rfl ?_
  refine RN.a rfl ?_
  refine RN.nil ?_
  refine hK4 _ _ ?_
  refine T.ret ?_
  refine Post.seq_r ?_
  refine bodyQ_ret [] (RetRun.tmp RetRun.nil) ⟨rfl, rfl⟩ (Ent.refl _)
 ·
  obtain ⟨m, rfl⟩ : ∃ m, n = m + 1 := ⟨n - 1, by omega⟩
  have hmod := Nat.mod_lt v (show 16 > 0 by omega)
  refine T.skip ?_
  refine hK2 _ _ ?_
  refine T.seq fun K5 hK5 => ?_
  refine T.regionD (z := 4) (Bs := _) (l := [(0, .pure), (1, .pure), (2, .pure), (3, .pure), (5, .pure), (6, .pure), (7, .pure), (8, .pure), (9, .pure), (10, .pure), (4, .eff), (11, .pure), (12, .pure)]) mixed (by kernel_rfl) (Ent.refl _) ?_
  refine RD.n rfl (p_move rfl (by conv => lhs; whnf)) ?_
  refine RD.n rfl (by first | exact (p_quoN (b := 16) rfl rfl rfl (by omega)) | exact (p_quo rfl rfl rfl (by omega))) ?_
  refine RD.n rfl (p_move rfl (by conv => lhs; whnf)) ?_
  refine RD.n rfl (by first | exact (p_subN (b := 1) rfl rfl rfl (by omega)) | exact (p_sub rfl rfl rfl (by omega))) ?_
  refine RD.n rfl (p_move rfl (by conv => lhs; whnf)) ?_
  refine RD.n rfl (by first | exact (p_remN (b := 16) rfl rfl rfl (by omega)) | exact (p_rem rfl rfl rfl (by omega))) ?_
  refine RD.n rfl (p_move rfl (by conv => lhs; whnf)) ?_
  refine RD.n rfl (by first | exact (p_remN (b := 16) rfl rfl rfl (by omega)) | exact (p_rem rfl rfl rfl (by omega))) ?_
  refine RD.n rfl (by first | exact (p_addN (b := 1) rfl rfl rfl (by omega)) | exact (p_add rfl rfl rfl (by omega))) ?_
  refine RD.n rfl (p_sliceN_s (l := v % 16) (h := v % 16 + 1) rfl Tryz.underlying9 rfl rfl rfl ⟨by omega, by show _ ≤ 16; omega⟩) ?_
  refine RD.C [] rfl rfl rfl rfl (c_call rfl rfl) (ih m (by omega) (v / 16) (by omega)) rfl (fun _ _ _ => .inr rfl) ?_
  rintro _ _ ⟨rfl, rfl⟩
  refine RD.n rfl (p_sadd rfl rfl rfl (by rw [hexN_length]; show _ + (hexD _).length ≤ _; rw [hexD_length hmod]; omega)) ?_
  refine RD.n rfl (p_assign rfl (by conv => lhs; whnf)) ?_
  refine RD.nil ?_
  refine hK5 _ _ ?_
  refine T.ret ?_
  refine bodyQ_ret [] (RetRun.tmp RetRun.nil) ⟨rfl, rfl⟩ (Ent.refl _)

theorem RHex_spec (n : Nat) : ∀ v, n ≤ 8 → v < 1000000000 → Ctr Tryz.prog 40 [intV v, intV n] [] (fun w Ps => w = strV (hexN v n) ∧ Ps = []) := by
 induction n using Nat.strongRecOn with
 | _ n ih => exact fun v hn hv => RHex_walk n v hn hv (fun m hm u hu => ih m hm u (by omega) hu)
theorem piece_good {l : List UInt8} {v n : Nat} (hne : l ≠ []) (hq : RuneQ l v n) (hn : n ≠ 0) : v = (dec l 0).1 ∧ n = (dec l 0).2 ∧ dec l 0 ≠ (65533, 1) := by
 unfold RuneQ at hq
 split at hq
 · exact absurd hq.2 hn
 ·
  rename_i h
  exact ⟨congrArg Prod.fst hq, congrArg Prod.snd hq, fun e => h (.inr e)⟩
theorem piece_bad {l : List UInt8} {v n : Nat} (hne : l ≠ []) (hq : RuneQ l v n) (hn : n = 0) : dec l 0 = (65533, 1) := by
 unfold RuneQ at hq
 split at hq
 ·
  rename_i h
  exact h.resolve_left hne
 ·
  rename_i h
  have := dec_step (List.length_pos_iff.2 hne)
  have : n = (dec l 0).2 := congrArg Prod.snd hq
  omega
theorem wd_low {l : List UInt8} (hne : l ≠ []) (h : (dec l 0).1 < 128) : wdB l = 1 := by
 have hl := List.length_pos_iff.2 hne
 unfold wdB
 by_cases g : l[0].toNat < 128
 · rw [dec_low hl g]
 ·
  have := (dec_high hl g).1
  omega
theorem pc_told {l : List UInt8} (h : dec l 0 ≠ (65533, 1)) : pcB l = toldR (dec l 0).1 := by unfold pcB; rw [if_neg h]
theorem Piece_spec (l : List UInt8) (hne : l ≠ []) : Ctr Tryz.prog 32 [strV l] [] (fun w Ps => w = .tuple #[strV (pcB l), intV (wdB l)] ∧ Ps = []) := by
 refine Ctr.of_body Tryz.func32 rfl (by kernel_rfl) Tryz.ntmps32 rfl rfl (fun Fr => ?_)
 have hl0 : 0 < l.length := List.length_pos_iff.2 hne
 have hlt := dec_lt hl0
 have hds := dec_step hl0
 refine T.seq fun K1 hK1 => ?_
 refine T.region (l := [0, 1]) rfl ?_
 refine RN.a rfl ?_
 refine RN.a rfl ?_
 refine RN.nil ?_
 refine hK1 _ _ ?_
 refine T.seq fun K2 hK2 => ?_
 refine T.region (l := [0, 1, 2, 3, 4, 5, 6]) rfl ?_
 refine RN.m rfl ?_
 refine RN.C [] rfl rfl rfl rfl (c_call rfl rfl) (Rune_spec l) rfl ?_
 rintro _ _ ⟨v, n, rfl, hq, rfl⟩
 refine RN.m rfl ?_
 refine RN.p rfl (p_extract rfl rfl rfl) ?_
 refine RN.p rfl (p_extract rfl rfl rfl) ?_
 refine RN.a rfl ?_
 refine RN.a rfl ?_
 refine RN.nil ?_
 refine hK2 _ _ ?_
 refine T.seq fun K3 hK3 => ?_
 refine T.block ?_
 refine T.seq fun K4 hK4 => ?_
 refine T.region (l := [0, 1, 2]) rfl ?_
 refine RN.m rfl ?_
 refine RN.p rfl (p_eql rfl rfl rfl) ?_
 refine RN.a rfl ?_
 refine RN.nil ?_
 refine hK4 _ _ ?_
 first | refine T.cond_dec rfl (fun h11 => ?_) (fun h11 => ?_) | refine T.cond rfl (fun h11 => ?_) (fun h11 => ?_)
 ·
  have hb := piece_bad hne hq (by omega)
  refine T.seq fun K5 hK5 => ?_
  refine T.region (l := [0, 1, 2, 3, 4, 5, 6]) rfl ?_
  refine RN.m rfl ?_
  refine RN.p rfl (by first | exact (p_indexN_s (n := 0) rfl Tryz.underlying9 rfl rfl (List.getElem?_eq_getElem hl0)) | exact (p_index_s rfl Tryz.underlying9 rfl rfl (List.getElem?_eq_getElem hl0))) ?_
  refine RN.p rfl (p_conv_i64 rfl Tryz.underlying5 Tryz.underlying3 rfl (by have := l[0].toNat_lt; omega)) ?_
  refine RN.C [] rfl rfl rfl rfl (c_call rfl rfl) (RHex_spec 2 l[0].toNat (by omega) (by have := l[0].toNat_lt; omega)) rfl ?_
  rintro _ _ ⟨rfl, rfl⟩
  refine RN.p rfl (p_sadd rfl rfl rfl (by rw [hexN_length]; decide)) ?_
  refine RN.a rfl ?_
  refine RN.a rfl ?_
  refine RN.nil ?_
  refine hK5 _ _ ?_
  refine T.ret ?_
  refine Post.block_r ?_
  refine Post.seq_r ?_
  refine bodyQ_ret [] (RetRun.tmp (RetRun.tmp RetRun.nil)) ⟨?_, rfl⟩ (Ent.refl _)
  have h1 : wdB l = 1 := congrArg Prod.snd hb
  have h2 : pcB l = ([92, 120] : List UInt8) ++ hexN l[0].toNat 2 := by unfold pcB; rw [if_pos hb, at0_get hl0]
  rw [h1, h2]
  rfl
 ·
  obtain ⟨ev, en, hb⟩ := piece_good hne hq (by omega)
  have hpc := pc_told hb
  refine T.seq fun K6 hK6 => ?_
  refine T.region (l := [0, 1, 2]) rfl ?_
  refine RN.m rfl ?_
  refine RN.p rfl (p_eql rfl rfl rfl) ?_
  refine RN.a rfl ?_
  refine RN.nil ?_
  refine hK6 _ _ ?_
  first | refine T.cond_dec rfl (fun h19 => ?_) (fun h19 => ?_) | refine T.cond rfl (fun h19 => ?_) (fun h19 => ?_)
  ·
   refine T.seq fun K7 hK7 => ?_
   refine T.region (l := [0, 1]) rfl ?_
   refine RN.a rfl ?_
   refine RN.a rfl ?_
   refine RN.nil ?_
   refine hK7 _ _ ?_
   refine T.ret ?_
   refine Post.block_r ?_
   refine Post.seq_r ?_
   refine bodyQ_ret [] (RetRun.tmp (RetRun.tmp RetRun.nil)) ⟨?_, rfl⟩ (Ent.refl _)
   rw [hpc, wd_low hne (by omega), show (dec l 0).1 = 34 from by omega]
   rfl
  ·
   refine T.seq fun K8 hK8 => ?_
   refine T.region (l := [0, 1, 2]) rfl ?_
   refine RN.m rfl ?_
   refine RN.p rfl (p_eql rfl rfl rfl) ?_
   refine RN.a rfl ?_
   refine RN.nil ?_
   refine hK8 _ _ ?_
   first | refine T.cond_dec rfl (fun h22 => ?_) (fun h22 => ?_) | refine T.cond rfl (fun h22 => ?_) (fun h22 => ?_)
   ·
    refine T.seq fun K9 hK9 => ?_
    refine T.region (l := [0, 1]) rfl ?_
    refine RN.a rfl ?_
    refine RN.a rfl ?_
    refine RN.nil ?_
    refine hK9 _ _ ?_
    refine T.ret ?_
    refine Post.block_r ?_
    refine Post.seq_r ?_
    refine bodyQ_ret [] (RetRun.tmp (RetRun.tmp RetRun.nil)) ⟨?_, rfl⟩ (Ent.refl _)
    rw [hpc, wd_low hne (by omega), show (dec l 0).1 = 92 from by omega]
    rfl
   ·
    refine T.seq fun K10 hK10 => ?_
    refine T.region (l := [0, 1, 2]) rfl ?_
    refine RN.m rfl ?_
    refine RN.p rfl (p_eql rfl rfl rfl) ?_
    refine RN.a rfl ?_
    refine RN.nil ?_
    refine hK10 _ _ ?_
    first | refine T.cond_dec rfl (fun h25 => ?_) (fun h25 => ?_) | refine T.cond rfl (fun h25 => ?_) (fun h25 => ?_)
    ·
     refine T.seq fun K11 hK11 => ?_
     refine T.region (l := [0, 1]) rfl ?_
     refine RN.a rfl ?_
     refine RN.a rfl ?_
     refine RN.nil ?_
     refine hK11 _ _ ?_
     refine T.ret ?_
     refine Post.block_r ?_
     refine Post.seq_r ?_
     refine bodyQ_ret [] (RetRun.tmp (RetRun.tmp RetRun.nil)) ⟨?_, rfl⟩ (Ent.refl _)
     rw [hpc, wd_low hne (by omega), show (dec l 0).1 = 10 from by omega]
     rfl
    ·
     refine T.seq fun K12 hK12 => ?_
     refine T.region (l := [0, 1, 2]) rfl ?_
     refine RN.m rfl ?_
     refine RN.p rfl (p_eql rfl rfl rfl) ?_
     refine RN.a rfl ?_
     refine RN.nil ?_
     refine hK12 _ _ ?_
     first | refine T.cond_dec rfl (fun h28 => ?_) (fun h28 => ?_) | refine T.cond rfl (fun h28 => ?_) (fun h28 => ?_)
     ·
      refine T.seq fun K13 hK13 => ?_
      refine T.region (l := [0, 1]) rfl ?_
      refine RN.a rfl ?_
      refine RN.a rfl ?_
      refine RN.nil ?_
      refine hK13 _ _ ?_
      refine T.ret ?_
      refine Post.block_r ?_
      refine Post.seq_r ?_
      refine bodyQ_ret [] (RetRun.tmp (RetRun.tmp RetRun.nil)) ⟨?_, rfl⟩ (Ent.refl _)
      rw [hpc, wd_low hne (by omega), show (dec l 0).1 = 9 from by omega]
      rfl
     ·
      refine T.seq fun K14 hK14 => ?_
      refine T.region (l := [0, 1, 2]) rfl ?_
      refine RN.m rfl ?_
      refine RN.p rfl (p_eql rfl rfl rfl) ?_
      refine RN.a rfl ?_
      refine RN.nil ?_
      refine hK14 _ _ ?_
      first | refine T.cond_dec rfl (fun h31 => ?_) (fun h31 => ?_) | refine T.cond rfl (fun h31 => ?_) (fun h31 => ?_)
      ·
       refine T.seq fun K15 hK15 => ?_
       refine T.region (l := [0, 1]) rfl ?_
       refine RN.a rfl ?_
       refine RN.a rfl ?_
       refine RN.nil ?_
       refine hK15 _ _ ?_
       refine T.ret ?_
       refine Post.block_r ?_
       refine Post.seq_r ?_
       refine bodyQ_ret [] (RetRun.tmp (RetRun.tmp RetRun.nil)) ⟨?_, rfl⟩ (Ent.refl _)
       rw [hpc, wd_low hne (by omega), show (dec l 0).1 = 0 from by omega]
       rfl
      ·
       refine T.seq fun K16 hK16 => ?_
       refine T.region (l := [0, 1, 2, 3, 4, 5, 6]) rfl ?_
       refine RN.m rfl ?_
       refine RN.p rfl (p_lss rfl rfl rfl) ?_
       refine RN.m rfl ?_
       first | refine RN.split_dec 37 rfl (fun h37 => ?_) (fun h37 => ?_) | refine RN.split 37 rfl (fun h37 => ?_) (fun h37 => ?_)
       ·
        refine RN.no0 rfl ?_
        refine RN.no0 rfl ?_
        refine RN.pt rfl ?_
        refine RN.a rfl ?_
        refine RN.nil ?_
        refine hK16 _ _ ?_
        refine T.cond_t rfl ?_
        refine T.seq fun K17 hK17 => ?_
        refine T.region (l := [0, 1, 2, 3, 4]) rfl ?_
        refine RN.m rfl ?_
        refine RN.C [] rfl rfl rfl rfl (c_call rfl rfl) (RHex_spec 2 v (by omega) (by omega)) rfl ?_
        rintro _ _ ⟨rfl, rfl⟩
        refine RN.p rfl (p_sadd rfl rfl rfl (by rw [hexN_length]; decide)) ?_
        refine RN.a rfl ?_
        refine RN.a rfl ?_
        refine RN.nil ?_
        refine hK17 _ _ ?_
        refine T.ret ?_
        refine Post.block_r ?_
        refine Post.seq_r ?_
        refine bodyQ_ret [] (RetRun.tmp (RetRun.tmp RetRun.nil)) ⟨?_, rfl⟩ (Ent.refl _)
        rw [hpc, wd_low hne (by omega), ← told5 (by omega), ev]
        rfl
       ·
        refine RN.m rfl ?_
        refine RN.p rfl (p_eql rfl rfl rfl) ?_
        refine RN.pf rfl ?_
        refine RN.a rfl ?_
        refine RN.nil ?_
        refine hK16 _ _ ?_
        first | refine T.cond_dec rfl (fun h34 => ?_) (fun h34 => ?_) | refine T.cond rfl (fun h34 => ?_) (fun h34 => ?_)
        ·
         refine T.seq fun K18 hK18 => ?_
         refine T.region (l := [0, 1, 2, 3, 4]) rfl ?_
         refine RN.m rfl ?_
         refine RN.C [] rfl rfl rfl rfl (c_call rfl rfl) (RHex_spec 2 v (by omega) (by omega)) rfl ?_
         rintro _ _ ⟨rfl, rfl⟩
         refine RN.p rfl (p_sadd rfl rfl rfl (by rw [hexN_length]; decide)) ?_
         refine RN.a rfl ?_
         refine RN.a rfl ?_
         refine RN.nil ?_
         refine hK18 _ _ ?_
         refine T.ret ?_
         refine Post.block_r ?_
         refine Post.seq_r ?_
         refine bodyQ_ret [] (RetRun.tmp (RetRun.tmp RetRun.nil)) ⟨?_, rfl⟩ (Ent.refl _)
         rw [hpc, wd_low hne (by omega), ← told5 (by omega), ev]
         rfl
        ·
         refine T.seq fun K19 hK19 => ?_
         refine T.region (l := [0, 1, 2, 3, 4, 5, 6, 7, 8, 9, 10, 11, 12, 13, 14, 15, 16, 17, 18]) rfl ?_
         refine RN.m rfl ?_
         refine RN.p rfl (p_geq rfl rfl rfl) ?_
         refine RN.m rfl ?_
         first | refine RN.split_dec 47 rfl (fun h47 => ?_) (fun h47 => ?_) | refine RN.split 47 rfl (fun h47 => ?_) (fun h47 => ?_)
         ·
          refine RN.m rfl ?_
          refine RN.p rfl (p_lss rfl rfl rfl) ?_
          refine RN.pt rfl ?_
          refine RN.m rfl ?_
          first | refine RN.split_dec 51 rfl (fun h51 => ?_) (fun h51 => ?_) | refine RN.split 51 rfl (fun h51 => ?_) (fun h51 => ?_)
          ·
           refine RN.no0 rfl ?_
           refine RN.no0 rfl ?_
           refine RN.pt rfl ?_
           refine RN.m rfl ?_
           refine RN.no0 rfl ?_
           refine RN.no0 rfl ?_
           refine RN.pt rfl ?_
           refine RN.m rfl ?_
           refine RN.no0 rfl ?_
           refine RN.no0 rfl ?_
           refine RN.pt rfl ?_
           refine RN.a rfl ?_
           refine RN.nil ?_
           refine hK19 _ _ ?_
           refine T.cond_t rfl ?_
           refine T.seq fun K20 hK20 => ?_
           refine T.region (l := [0, 1, 2, 3, 4, 5]) rfl ?_
           refine RN.m rfl ?_
           refine RN.C [] rfl rfl rfl rfl (c_call rfl rfl) (RHex_spec 4 v (by omega) (by omega)) rfl ?_
           rintro _ _ ⟨rfl, rfl⟩
           refine RN.p rfl (p_sadd rfl rfl rfl (by rw [hexN_length]; decide)) ?_
           refine RN.m rfl ?_
           refine RN.a rfl ?_
           refine RN.a rfl ?_
           refine RN.nil ?_
           refine hK20 _ _ ?_
           refine T.ret ?_
           refine Post.block_r ?_
           refine Post.seq_r ?_
           refine bodyQ_ret [] (RetRun.tmp (RetRun.tmp RetRun.nil)) ⟨?_, rfl⟩ (Ent.refl _)
           rw [hpc, ← told6 (by omega), ev, en]
           rfl
          ·
           refine RN.m rfl ?_
           refine RN.p rfl (p_eql rfl rfl rfl) ?_
           refine RN.pf rfl ?_
           refine RN.m rfl ?_
           first | refine RN.split_dec 55 rfl (fun h55 => ?_) (fun h55 => ?_) | refine RN.split 55 rfl (fun h55 => ?_) (fun h55 => ?_)
           ·
            refine RN.no0 rfl ?_
            refine RN.no0 rfl ?_
            refine RN.pt rfl ?_
            refine RN.m rfl ?_
            refine RN.no0 rfl ?_
            refine RN.no0 rfl ?_
            refine RN.pt rfl ?_
            refine RN.a rfl ?_
            refine RN.nil ?_
            refine hK19 _ _ ?_
            refine T.cond_t rfl ?_
            refine T.seq fun K21 hK21 => ?_
            refine T.region (l := [0, 1, 2, 3, 4, 5]) rfl ?_
            refine RN.m rfl ?_
            refine RN.C [] rfl rfl rfl rfl (c_call rfl rfl) (RHex_spec 4 v (by omega) (by omega)) rfl ?_
            rintro _ _ ⟨rfl, rfl⟩
            refine RN.p rfl (p_sadd rfl rfl rfl (by rw [hexN_length]; decide)) ?_
            refine RN.m rfl ?_
            refine RN.a rfl ?_
            refine RN.a rfl ?_
            refine RN.nil ?_
            refine hK21 _ _ ?_
            refine T.ret ?_
            refine Post.block_r ?_
            refine Post.seq_r ?_
            refine bodyQ_ret [] (RetRun.tmp (RetRun.tmp RetRun.nil)) ⟨?_, rfl⟩ (Ent.refl _)
            rw [hpc, ← told6 (by omega), ev, en]
            rfl
           ·
            refine RN.m rfl ?_
            refine RN.p rfl (p_eql rfl rfl rfl) ?_
            refine RN.pf rfl ?_
            refine RN.m rfl ?_
            first | refine RN.split_dec 59 rfl (fun h59 => ?_) (fun h59 => ?_) | refine RN.split 59 rfl (fun h59 => ?_) (fun h59 => ?_)
            ·
             refine RN.no0 rfl ?_
             refine RN.no0 rfl ?_
             refine RN.pt rfl ?_
             refine RN.a rfl ?_
             refine RN.nil ?_
             refine hK19 _ _ ?_
             refine T.cond_t rfl ?_
             refine T.seq fun K22 hK22 => ?_
             refine T.region (l := [0, 1, 2, 3, 4, 5]) rfl ?_
             refine RN.m rfl ?_
             refine RN.C [] rfl rfl rfl rfl (c_call rfl rfl) (RHex_spec 4 v (by omega) (by omega)) rfl ?_
             rintro _ _ ⟨rfl, rfl⟩
             refine RN.p rfl (p_sadd rfl rfl rfl (by rw [hexN_length]; decide)) ?_
             refine RN.m rfl ?_
             refine RN.a rfl ?_
             refine RN.a rfl ?_
             refine RN.nil ?_
             refine hK22 _ _ ?_
             refine T.ret ?_
             refine Post.block_r ?_
             refine Post.seq_r ?_
             refine bodyQ_ret [] (RetRun.tmp (RetRun.tmp RetRun.nil)) ⟨?_, rfl⟩ (Ent.refl _)
             rw [hpc, ← told6 (by omega), ev, en]
             rfl
            ·
             refine RN.m rfl ?_
             refine RN.p rfl (p_eql rfl rfl rfl) ?_
             refine RN.pf rfl ?_
             refine RN.a rfl ?_
             refine RN.nil ?_
             refine hK19 _ _ ?_
             first | refine T.cond_dec rfl (fun h44 => ?_) (fun h44 => ?_) | refine T.cond rfl (fun h44 => ?_) (fun h44 => ?_)
             ·
              refine T.seq fun K23 hK23 => ?_
              refine T.region (l := [0, 1, 2, 3, 4, 5]) rfl ?_
              refine RN.m rfl ?_
              refine RN.C [] rfl rfl rfl rfl (c_call rfl rfl) (RHex_spec 4 v (by omega) (by omega)) rfl ?_
              rintro _ _ ⟨rfl, rfl⟩
              refine RN.p rfl (p_sadd rfl rfl rfl (by rw [hexN_length]; decide)) ?_
              refine RN.m rfl ?_
              refine RN.a rfl ?_
              refine RN.a rfl ?_
              refine RN.nil ?_
              refine hK23 _ _ ?_
              refine T.ret ?_
              refine Post.block_r ?_
              refine Post.seq_r ?_
              refine bodyQ_ret [] (RetRun.tmp (RetRun.tmp RetRun.nil)) ⟨?_, rfl⟩ (Ent.refl _)
              rw [hpc, ← told6 (by omega), ev, en]
              rfl
             ·
              refine T.skip ?_
              refine hK3 _ _ ?_
              refine T.seq fun K24 hK24 => ?_
              refine T.region (l := [0, 1, 2, 3, 4, 5]) rfl ?_
              refine RN.m rfl ?_
              refine RN.m rfl ?_
              refine RN.p rfl (by first | exact (p_slice_s_hi rfl Tryz.underlying9 rfl rfl (by omega)) | exact (p_sliceN_s (l := 0) rfl Tryz.underlying9 rfl rfl rfl (by omega)) | exact (p_slice_s rfl Tryz.underlying9 rfl rfl rfl (by omega))) ?_
              refine RN.m rfl ?_
              refine RN.a rfl ?_
              refine RN.a rfl ?_
              refine RN.nil ?_
              refine hK24 _ _ ?_
              refine T.ret ?_
              refine bodyQ_ret [] (RetRun.tmp (RetRun.tmp RetRun.nil)) ⟨?_, rfl⟩ (Ent.refl _)
              rw [hpc, ← told7 (by omega), en, enc_dec hne hb]
              rfl
         ·
          refine RN.no0 rfl ?_
          refine RN.no0 rfl ?_
          refine RN.pf rfl ?_
          refine RN.m rfl ?_
          refine RN.m rfl ?_
          refine RN.p rfl (p_eql rfl rfl rfl) ?_
          refine RN.pf rfl ?_
          refine RN.m rfl ?_
          first | refine RN.split_dec 55 rfl (fun h55 => ?_) (fun h55 => ?_) | refine RN.split 55 rfl (fun h55 => ?_) (fun h55 => ?_)
          ·
           refine RN.no0 rfl ?_
           refine RN.no0 rfl ?_
           refine RN.pt rfl ?_
           refine RN.m rfl ?_
           refine RN.no0 rfl ?_
           refine RN.no0 rfl ?_
           refine RN.pt rfl ?_
           refine RN.a rfl ?_
           refine RN.nil ?_
           refine hK19 _ _ ?_
           refine T.cond_t rfl ?_
           refine T.seq fun K25 hK25 => ?_
           refine T.region (l := [0, 1, 2, 3, 4, 5]) rfl ?_
           refine RN.m rfl ?_
           refine RN.C [] rfl rfl rfl rfl (c_call rfl rfl) (RHex_spec 4 v (by omega) (by omega)) rfl ?_
           rintro _ _ ⟨rfl, rfl⟩
           refine RN.p rfl (p_sadd rfl rfl rfl (by rw [hexN_length]; decide)) ?_
           refine RN.m rfl ?_
           refine RN.a rfl ?_
           refine RN.a rfl ?_
           refine RN.nil ?_
           refine hK25 _ _ ?_
           refine T.ret ?_
           refine Post.block_r ?_
           refine Post.seq_r ?_
           refine bodyQ_ret [] (RetRun.tmp (RetRun.tmp RetRun.nil)) ⟨?_, rfl⟩ (Ent.refl _)
           rw [hpc, ← told6 (by omega), ev, en]
           rfl
          ·
           refine RN.m rfl ?_
           refine RN.p rfl (p_eql rfl rfl rfl) ?_
           refine RN.pf rfl ?_
           refine RN.m rfl ?_
           first | refine RN.split_dec 59 rfl (fun h59 => ?_) (fun h59 => ?_) | refine RN.split 59 rfl (fun h59 => ?_) (fun h59 => ?_)
           ·
            refine RN.no0 rfl ?_
            refine RN.no0 rfl ?_
            refine RN.pt rfl ?_
            refine RN.a rfl ?_
            refine RN.nil ?_
            refine hK19 _ _ ?_
            refine T.cond_t rfl ?_
            refine T.seq fun K26 hK26 => ?_
            refine T.region (l := [0, 1, 2, 3, 4, 5]) rfl ?_
            refine RN.m rfl ?_
            refine RN.C [] rfl rfl rfl rfl (c_call rfl rfl) (RHex_spec 4 v (by omega) (by omega)) rfl ?_
            rintro _ _ ⟨rfl, rfl⟩
            refine RN.p rfl (p_sadd rfl rfl rfl (by rw [hexN_length]; decide)) ?_
            refine RN.m rfl ?_
            refine RN.a rfl ?_
            refine RN.a rfl ?_
            refine RN.nil ?_
            refine hK26 _ _ ?_
            refine T.ret ?_
            refine Post.block_r ?_
            refine Post.seq_r ?_
            refine bodyQ_ret [] (RetRun.tmp (RetRun.tmp RetRun.nil)) ⟨?_, rfl⟩ (Ent.refl _)
            rw [hpc, ← told6 (by omega), ev, en]
            rfl
           ·
            refine RN.m rfl ?_
            refine RN.p rfl (p_eql rfl rfl rfl) ?_
            refine RN.pf rfl ?_
            refine RN.a rfl ?_
            refine RN.nil ?_
            refine hK19 _ _ ?_
            first | refine T.cond_dec rfl (fun h44 => ?_) (fun h44 => ?_) | refine T.cond rfl (fun h44 => ?_) (fun h44 => ?_)
            ·
             refine T.seq fun K27 hK27 => ?_
             refine T.region (l := [0, 1, 2, 3, 4, 5]) rfl ?_
             refine RN.m rfl ?_
             refine RN.C [] rfl rfl rfl rfl (c_call rfl rfl) (RHex_spec 4 v (by omega) (by omega)) rfl ?_
             rintro _ _ ⟨rfl, rfl⟩
             refine RN.p rfl (p_sadd rfl rfl rfl (by rw [hexN_length]; decide)) ?_
             refine RN.m rfl ?_
             refine RN.a rfl ?_
             refine RN.a rfl ?_
             refine RN.nil ?_
             refine hK27 _ _ ?_
             refine T.ret ?_
             refine Post.block_r ?_
             refine Post.seq_r ?_
             refine bodyQ_ret [] (RetRun.tmp (RetRun.tmp RetRun.nil)) ⟨?_, rfl⟩ (Ent.refl _)
             rw [hpc, ← told6 (by omega), ev, en]
             rfl
            ·
             refine T.skip ?_
             refine hK3 _ _ ?_
             refine T.seq fun K28 hK28 => ?_
             refine T.region (l := [0, 1, 2, 3, 4, 5]) rfl ?_
             refine RN.m rfl ?_
             refine RN.m rfl ?_
             refine RN.p rfl (by first | exact (p_slice_s_hi rfl Tryz.underlying9 rfl rfl (by omega)) | exact (p_sliceN_s (l := 0) rfl Tryz.underlying9 rfl rfl rfl (by omega)) | exact (p_slice_s rfl Tryz.underlying9 rfl rfl rfl (by omega))) ?_
             refine RN.m rfl ?_
             refine RN.a rfl ?_
             refine RN.a rfl ?_
             refine RN.nil ?_
             refine hK28 _ _ ?_
             refine T.ret ?_
             refine bodyQ_ret [] (RetRun.tmp (RetRun.tmp RetRun.nil)) ⟨?_, rfl⟩ (Ent.refl _)
             rw [hpc, ← told7 (by omega), en, enc_dec hne hb]
             rfl

end Go.Proofs.YtokbjejbgbdkoaaGreatDoor
namespace Go.Proofs.YtokbjejbgbdkoaaGreatDoor
open Go Go.Sl Go.Proofs
set_option maxRecDepth 20000
open Go.Mo Go.Proofs Go.Shelf Go.RowKit
theorem qstep2 {l q X : List UInt8} {p : Nat} (hp : p < l.length) (h : q ++ qI (l.drop p) = X) : (q ++ pcB (l.drop p)) ++ qI (l.drop (p + wdB (l.drop p))) = X := by
 have e : wdB (l.drop p) = (dec l p).2 := by unfold wdB; rw [dec_drop]
 rw [e]
 exact qstep hp h
theorem drop_ne {l : List UInt8} {p : Nat} (hp : p < l.length) : l.drop p ≠ [] := fun g => by have := congrArg List.length g; rw [List.length_drop] at this; simp at this; omega
theorem RQuote_spec (l : List UInt8) (hl : l.length ≤ 100000000) : Ctr Tryz.prog 19 [strV l] [] (fun w Ps => w = strV (Qt l) ∧ Ps = []) := by
 refine Ctr.of_body Tryz.func19 rfl (by kernel_rfl) Tryz.ntmps19 rfl rfl (fun Fr => ?_)
 refine T.seq fun K1 hK1 => ?_
 refine T.region (l := [0]) rfl ?_
 refine RN.a rfl ?_
 refine RN.nil ?_
 refine hK1 _ _ ?_
 refine T.seq fun K2 hK2 => ?_
 refine T.region (l := [0, 1]) rfl ?_
 refine RN.E rfl rfl rfl rfl (e_buildSlice1 rfl Tryz.underlying68 ti_5 rfl (by conv => lhs; whnf) rfl) ?_
 rintro _ _ ⟨b6, rfl, rfl⟩
 refine RN.a rfl ?_
 refine RN.nil ?_
 refine hK2 _ _ ?_
 refine T.seq fun K3 hK3 => ?_
 refine T.block ?_
 refine T.loop (G := Nat × List UInt8 × Value) (fun ⟨p, q, v3⟩ => p ≤ l.length ∧ q ++ qI (l.drop p) = 34 :: qI l ∧ v3.oneCell' = true) (fun ⟨p, q, v3⟩ => [(0, strV (l.drop p)), (3, v3)]) (fun ⟨p, q, v3⟩ => [vec 5 1 v3 q.length (q.map u8V), Fr]) (fun ⟨p, q, v3⟩ => l.length - p) (0, [34], slc b6 0 1 1) ⟨Nat.zero_le _, rfl, rfl⟩ (LiveIs.cons rfl (LiveIs.cons rfl LiveIs.nil)) (Ent.cons (vec_of_row (xs := [u8V 34]) (rest := []) rfl (Nat.le_refl _) (by decide) rfl) (Ent.refl _)) ?_
 rintro ⟨p, q, v3⟩ e4 ⟨hp, hq, hv3⟩
 dsimp only
 have hql := qlen hq
 refine T.seq fun K5 hK5 => ?_
 refine T.seq fun K6 hK6 => ?_
 refine T.region (l := [0, 1, 2]) rfl ?_
 refine RN.m rfl ?_
 refine RN.p rfl (p_len_s rfl Tryz.underlying9 rfl) ?_
 refine RN.p rfl (p_gtr rfl rfl rfl) ?_
 refine RN.nil ?_
 refine hK6 _ _ ?_
 first | refine T.cond_dec rfl (fun h9 => ?_) (fun h9 => ?_) | refine T.cond rfl (fun h9 => ?_) (fun h9 => ?_)
 ·
  have hlt : p < l.length := by rw [List.length_drop] at h9; omega
  have hwd := wdB_pos (drop_ne hlt)
  rw [List.length_drop] at hwd
  have hpl := pcB_len (s := l.drop p)
  refine T.skip ?_
  refine hK5 _ _ ?_
  refine T.block ?_
  refine T.seq fun K7 hK7 => ?_
  refine T.region (l := [0, 1, 2, 3, 4, 5, 6]) rfl ?_
  refine RN.m rfl ?_
  refine RN.C [] rfl rfl rfl rfl (c_call rfl rfl) (Piece_spec (l.drop p) (drop_ne hlt)) rfl ?_
  rintro _ _ ⟨rfl, rfl⟩
  refine RN.m rfl ?_
  refine RN.p rfl (p_extract rfl rfl rfl) ?_
  refine RN.p rfl (p_extract rfl rfl rfl) ?_
  refine RN.a rfl ?_
  refine RN.a rfl ?_
  refine RN.nil ?_
  refine hK7 _ _ ?_
  refine T.seq fun K8 hK8 => ?_
  refine T.region (l := [0, 1, 2, 3]) rfl ?_
  refine RN.m rfl ?_
  refine RN.m rfl ?_
  refine RN.E rfl rfl rfl rfl (e_append rfl Tryz.underlying68 ni_9 ti_5 rfl rfl (i := 0) rfl src_str one_u8 (by omega)) ?_
  rintro v17 _ ⟨hv17, rfl⟩
  refine RN.a rfl ?_
  refine RN.nil ?_
  refine hK8 _ _ ?_
  refine T.region (l := [0, 1, 2, 3]) rfl ?_
  refine RN.m rfl ?_
  refine RN.m rfl ?_
  refine RN.p rfl (by first | exact (p_slice_s_lo rfl Tryz.underlying9 rfl rfl (by rw [List.length_drop]; omega)) | exact (p_sliceN_s rfl Tryz.underlying9 rfl rfl rfl (by rw [List.length_drop]; omega)) | exact (p_slice_s rfl Tryz.underlying9 rfl rfl rfl (by rw [List.length_drop]; omega))) ?_
  refine RN.a rfl ?_
  refine RN.nil ?_
  refine ⟨(p + wdB (l.drop p), q ++ pcB (l.drop p), v17), ⟨by omega, qstep2 hlt hq, hv17⟩, (by show _ - (p + _) < _ - p; omega), (LiveIs.cons (congrArg strV (by rw [List.drop_drop])) (LiveIs.cons rfl LiveIs.nil)), (Ent.cons (vec_eq (by rw [List.length_append]) (by rw [List.map_append])) (Ent.refl _))⟩
 ·
  have hpe : p = l.length := by rw [List.length_drop] at h9; omega
  refine T.exit ?_
  refine Post.seq_x ?_
  refine Post.seq_x ?_
  refine Post.block_hit ?_
  refine hK3 _ _ ?_
  refine T.seq fun K9 hK9 => ?_
  refine T.region (l := [0, 1, 2, 3, 4]) rfl ?_
  refine RN.m rfl ?_
  refine RN.E rfl rfl rfl rfl (e_buildSlice1 rfl Tryz.underlying68 ti_5 rfl (by conv => lhs; whnf) rfl) ?_
  rintro _ _ ⟨b22, rfl, rfl⟩
  refine RN.E rfl rfl rfl rfl (e_append rfl Tryz.underlying68 ni_68 ti_5 rfl rfl (i := 1) rfl (src_full (i := 0) rfl rfl) (by simp [Value.oneCell']) (by omega)) ?_
  rintro v23 _ ⟨hv23, rfl⟩
  refine RN.u rfl (q_vec_str (l := q ++ [34]) rfl Tryz.underlying68 Tryz.underlying5 Tryz.underlying9 rfl (i := 1) rfl (by simp) (by simp [u8V])) ?_
  refine RN.a rfl ?_
  refine RN.nil ?_
  refine hK9 _ _ ?_
  refine T.ret ?_
  refine bodyQ_ret [] (RetRun.tmp RetRun.nil) ⟨congrArg strV (qdone hpe hq), rfl⟩ (Ent.pull_drop (is := [2]) rfl)

end Go.Proofs.YtokbjejbgbdkoaaGreatDoor
