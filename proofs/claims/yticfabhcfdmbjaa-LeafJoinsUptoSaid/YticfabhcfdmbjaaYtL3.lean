/-
  Walks of leaf.
-/
import Derived.Test.YticfabhcfdmbjaaYtL2
set_option linter.unusedVariables false
set_option linter.unusedSimpArgs false
namespace Go.Proofs.Yticfabhcfdmbjaa
open Go Go.Sl Go.Proofs
set_option maxRecDepth 20000
open Go.Mo
theorem RCut_spec (kind epoch group : Int) (A : Assn) (bv : Value) (l : List UInt8) (hA : Ent A (view 1 bv l.length (l.map u8V))) (hlen : l.length ≤ 65536) : Ctr Try.prog 27 [.agg (strm kind epoch group bv).toArray] [A] (fun v Ps => v.oneCell' = true ∧ Ps = [vec 54 39 v (pagesN l.length) (pgs (cutL kind epoch group l (pagesN l.length))), A]) := by
  refine Ctr.of_body Try.func27 rfl (by kernel_rfl) Try.ntmps27 rfl rfl (fun Fr => ?_)
  refine T.peek (A := view 1 bv l.length (l.map u8V)) ((Ent.head _ _).trans hA) view_form ?_
  rintro ⟨q, cap, rfl, hcap, hcm, hqf⟩
  refine T.seq fun K1 hK1 => ?_
  refine T.region (l := [0, 1]) rfl ?_
  refine RN.E rfl rfl rfl rfl (e_box rfl rfl rfl) ?_
  rintro _ _ ⟨b1, rfl, rfl⟩
  refine RN.qq rfl rfl rfl rfl (PRun.q (p_assign rfl (by conv => lhs; whnf))) ?_
  refine RN.nil ?_
  refine hK1 _ _ ?_
  refine T.seq fun K2 hK2 => ?_
  refine T.region (l := [0, 1]) rfl ?_
  refine RN.E rfl rfl rfl rfl (by first | exact (e_makeSliceN (n := 0) (c := 0) rfl Try.underlying45 ti_54 rfl rfl rfl (by omega)) | exact (e_makeSlice rfl Try.underlying45 ti_54 rfl rfl rfl (by omega))) ?_
  rintro _ _ ⟨b8, rfl, rfl⟩
  refine RN.ent (Ent.cons (vec_empty (el := 54) (sz := 39)) (Ent.refl _)) ?_
  refine RN.qq rfl rfl rfl rfl (PRun.q (p_assign rfl (by conv => lhs; whnf))) ?_
  refine RN.nil ?_
  refine hK2 _ _ ?_
  refine T.seq fun K3 hK3 => ?_
  refine T.region (l := [0, 1, 2, 3, 4]) rfl ?_
  refine RN.qq rfl rfl rfl rfl (PRun.q (p_fieldAddr rfl fa_57_3 rfl)) ?_
  refine RN.qq rfl rfl rfl rfl (by first | exact (q_load rfl sc_49 rfl (i := 0) rfl rfl) | exact (q_load rfl sc_49 rfl (i := 1) rfl rfl) | exact (q_load rfl sc_49 rfl (i := 2) rfl rfl) | exact (q_load rfl sc_49 rfl (i := 3) rfl rfl) | exact (q_load rfl sc_49 rfl (i := 4) rfl rfl)) ?_
  refine RN.qq rfl rfl rfl rfl (PRun.q (p_len rfl Try.underlying49 rfl)) ?_
  refine RN.C [] rfl rfl rfl rfl (c_call rfl rfl) (RPages_spec (l.length : Int)) rfl ?_
  rintro _ _ ⟨rfl, rfl⟩
  rw [if_neg (by omega), Int.toNat_natCast]
  have hpn := pagesN_le hlen
  refine RN.qq rfl rfl rfl rfl (PRun.q (p_assign rfl (by conv => lhs; whnf))) ?_
  refine RN.nil ?_
  refine hK3 _ _ ?_
  refine T.seq fun K4 hK4 => ?_
  refine T.seq fun K5 hK5 => ?_
  refine T.region (l := [0]) rfl ?_
  refine RN.qq rfl rfl rfl rfl (PRun.q (p_assign rfl (by conv => lhs; whnf))) ?_
  refine RN.nil ?_
  refine hK5 _ _ ?_
  refine T.block ?_
  refine T.loop (G := Nat × Value) (fun ⟨i, v⟩ => i ≤ pagesN l.length ∧ v.oneCell' = true) (fun ⟨i, v⟩ => [(1, ptr b1 0), (3, v), (4, intV (pagesN l.length)), (5, intV i)]) (fun ⟨i, v⟩ => [row b1 57 (strm kind epoch group (.slice q l.length cap)), vec 54 39 v i (pgs (cutL kind epoch group l i)), A, Fr]) (fun ⟨i, v⟩ => pagesN l.length - i) (0, slc b8 0 0 0) ⟨Nat.zero_le _, rfl⟩ (LiveIs.cons rfl (LiveIs.cons rfl (LiveIs.cons rfl (LiveIs.cons rfl LiveIs.nil)))) (Ent.pull_drop (is := [1, 0, 0, 0]) rfl) ?_
  rintro ⟨i, v⟩ e6 ⟨hik, hv⟩
  dsimp only
  refine T.seq fun K7 hK7 => ?_
  refine T.seq fun K8 hK8 => ?_
  refine T.region (l := [0, 1, 2]) rfl ?_
  refine RN.qq rfl rfl rfl rfl (PRun.q (p_move rfl (by conv => lhs; whnf))) ?_
  refine RN.qq rfl rfl rfl rfl (PRun.q (p_move rfl (by conv => lhs; whnf))) ?_
  refine RN.qq rfl rfl rfl rfl (PRun.q (p_lss rfl rfl rfl)) ?_
  refine RN.nil ?_
  refine hK8 _ _ ?_
  first | refine T.cond_dec rfl (fun h15 => ?_) (fun h15 => ?_) | refine T.cond rfl (fun h15 => ?_) (fun h15 => ?_)
  ·
    have hin : i < pagesN l.length := by omega
    refine T.skip ?_
    refine hK7 _ _ ?_
    refine T.seq fun K9 hK9 => ?_
    refine T.block ?_
    refine T.seq fun K10 hK10 => ?_
    refine T.region (l := [0, 1, 2, 3, 4, 5, 6, 7, 8, 9, 10, 11, 12, 13, 14, 15, 16]) rfl ?_
    refine RN.qq rfl rfl rfl rfl (PRun.q (p_fieldAddr rfl fa_57_0 rfl)) ?_
    refine RN.qq rfl rfl rfl rfl (by first | exact (q_load rfl sc_3 rfl (i := 0) rfl rfl) | exact (q_load rfl sc_3 rfl (i := 1) rfl rfl) | exact (q_load rfl sc_3 rfl (i := 2) rfl rfl) | exact (q_load rfl sc_3 rfl (i := 3) rfl rfl) | exact (q_load rfl sc_3 rfl (i := 4) rfl rfl)) ?_
    refine RN.qq rfl rfl rfl rfl (PRun.q (p_fieldAddr rfl fa_57_3 rfl)) ?_
    refine RN.qq rfl rfl rfl rfl (by first | exact (q_load rfl sc_49 rfl (i := 0) rfl rfl) | exact (q_load rfl sc_49 rfl (i := 1) rfl rfl) | exact (q_load rfl sc_49 rfl (i := 2) rfl rfl) | exact (q_load rfl sc_49 rfl (i := 3) rfl rfl) | exact (q_load rfl sc_49 rfl (i := 4) rfl rfl)) ?_
    refine RN.qq rfl rfl rfl rfl (PRun.q (p_len rfl Try.underlying49 rfl)) ?_
    refine RN.qq rfl rfl rfl rfl (PRun.q (p_conv_u32 rfl Try.underlying3 Try.underlying48 rfl (by omega))) ?_
    refine RN.qq rfl rfl rfl rfl (PRun.q (p_fieldAddr rfl fa_57_1 rfl)) ?_
    refine RN.qq rfl rfl rfl rfl (by first | exact (q_load rfl sc_48 rfl (i := 0) rfl rfl) | exact (q_load rfl sc_48 rfl (i := 1) rfl rfl) | exact (q_load rfl sc_48 rfl (i := 2) rfl rfl) | exact (q_load rfl sc_48 rfl (i := 3) rfl rfl) | exact (q_load rfl sc_48 rfl (i := 4) rfl rfl)) ?_
    refine RN.qq rfl rfl rfl rfl (PRun.q (p_fieldAddr rfl fa_57_2 rfl)) ?_
    refine RN.qq rfl rfl rfl rfl (by first | exact (q_load rfl sc_48 rfl (i := 0) rfl rfl) | exact (q_load rfl sc_48 rfl (i := 1) rfl rfl) | exact (q_load rfl sc_48 rfl (i := 2) rfl rfl) | exact (q_load rfl sc_48 rfl (i := 3) rfl rfl) | exact (q_load rfl sc_48 rfl (i := 4) rfl rfl)) ?_
    refine RN.qq rfl rfl rfl rfl (PRun.q (p_move rfl (by conv => lhs; whnf))) ?_
    refine RN.qq rfl rfl rfl rfl (PRun.q (p_conv_u32 rfl Try.underlying3 Try.underlying48 rfl (by omega))) ?_
    refine RN.qq rfl rfl rfl rfl (PRun.q (p_move rfl (by conv => lhs; whnf))) ?_
    refine RN.qq rfl rfl rfl rfl (PRun.q (p_conv_u32 rfl Try.underlying3 Try.underlying48 rfl (by omega))) ?_
    refine RN.qq rfl rfl rfl rfl (PRun.q (p_build (cs := (pageOf kind epoch group l i).blank.cells) rfl pl_54 ti_54 rfl)) ?_
    refine RN.E rfl rfl rfl rfl (e_alloc rfl ti_54) ?_
    rintro _ _ ⟨b6, rfl, rfl⟩
    refine RN.EN rfl rfl rfl (e_storeA rfl ts_54 rfl rfl rfl Pg.one (i := 0) rfl (by simp)) ?_
    rintro _ _ ⟨rfl, rfl⟩
    simp only [setN]
    rw [blank_store rfl]
    refine RN.nil ?_
    refine hK10 _ _ ?_
    refine T.seq fun K11 hK11 => ?_
    refine T.seq fun K12 hK12 => ?_
    refine T.region (l := [0]) rfl ?_
    refine RN.qq rfl rfl rfl rfl (PRun.q (p_assign rfl (by conv => lhs; whnf))) ?_
    refine RN.nil ?_
    refine hK12 _ _ ?_
    refine T.block ?_
    refine T.loop (G := Nat) (fun k => k ≤ 32 ∧ k ≤ (l.drop (i * 32)).length) (fun k => [(1, ptr b1 0), (3, v), (4, intV (pagesN l.length)), (5, intV i), (6, ptr b6 0), (7, intV k)]) (fun k => [row b6 54 (pgF kind epoch group l i k).cells, row b1 57 (strm kind epoch group (.slice q l.length cap)), vec 54 39 v i (pgs (cutL kind epoch group l i)), A, Fr]) (fun k => 32 - k) 0 ⟨by omega, Nat.zero_le _⟩ (LiveIs.cons rfl (LiveIs.cons rfl (LiveIs.cons rfl (LiveIs.cons rfl (LiveIs.cons rfl (LiveIs.cons rfl LiveIs.nil)))))) (Ent.refl _) ?_
    rintro k e13 ⟨hk32, hkc⟩
    refine T.seq fun K14 hK14 => ?_
    refine T.seq fun K15 hK15 => ?_
    refine T.region (l := [0, 1, 2, 3, 4, 5, 6, 7, 8, 9, 10, 11]) rfl ?_
    refine RN.qq rfl rfl rfl rfl (PRun.q (p_move rfl (by conv => lhs; whnf))) ?_
    refine RN.qq rfl rfl rfl rfl (PRun.q (p_lss rfl rfl rfl)) ?_
    refine RN.qq rfl rfl rfl rfl (PRun.q (p_move rfl (by conv => lhs; whnf))) ?_
    first | refine RN.split_dec 35 rfl (fun h35 => ?_) (fun h35 => ?_) | refine RN.split 35 rfl (fun h35 => ?_) (fun h35 => ?_)
    ·
      refine RN.qq rfl rfl rfl rfl (PRun.q (p_move rfl (by conv => lhs; whnf))) ?_
      refine RN.qq rfl rfl rfl rfl (PRun.q (by first | exact (p_mulN (b := 32) rfl rfl rfl (by omega)) | exact (p_mul rfl rfl rfl (by omega)))) ?_
      refine RN.qq rfl rfl rfl rfl (PRun.q (p_move rfl (by conv => lhs; whnf))) ?_
      refine RN.qq rfl rfl rfl rfl (PRun.q (by first | exact (p_addN rfl rfl rfl (by omega)) | exact (p_add rfl rfl rfl (by omega)))) ?_
      refine RN.qq rfl rfl rfl rfl (PRun.q (p_fieldAddr rfl fa_57_3 rfl)) ?_
      refine RN.qq rfl rfl rfl rfl (by first | exact (q_load rfl sc_49 rfl (i := 0) rfl rfl) | exact (q_load rfl sc_49 rfl (i := 1) rfl rfl) | exact (q_load rfl sc_49 rfl (i := 2) rfl rfl) | exact (q_load rfl sc_49 rfl (i := 3) rfl rfl) | exact (q_load rfl sc_49 rfl (i := 4) rfl rfl)) ?_
      refine RN.qq rfl rfl rfl rfl (PRun.q (p_len rfl Try.underlying49 rfl)) ?_
      refine RN.qq rfl rfl rfl rfl (PRun.q (p_lss rfl rfl rfl)) ?_
      refine RN.qq rfl rfl rfl rfl (PRun.q (p_pick_t rfl rfl (by conv => lhs; whnf))) ?_
      refine RN.nil ?_
      refine hK15 _ _ ?_
      first | refine T.cond_dec rfl (fun h44 => ?_) (fun h44 => ?_) | refine T.cond rfl (fun h44 => ?_) (fun h44 => ?_)
      ·
        have hix : i * 32 + k < l.length := by omega
        obtain ⟨sb, so, rfl⟩ := hqf (by omega)
        have hcl : (l.drop (i * 32)).length = l.length - i * 32 := List.length_drop
        refine T.skip ?_
        refine hK14 _ _ ?_
        refine T.seq fun K16 hK16 => ?_
        refine T.block ?_
        refine T.region (l := [0, 1, 2, 3, 4, 5, 6, 7, 8, 9, 10, 11]) rfl ?_
        refine RN.qq rfl rfl rfl rfl (PRun.q (p_move rfl (by conv => lhs; whnf))) ?_
        refine RN.qq rfl rfl rfl rfl (PRun.q (p_fieldAddr rfl fa_57_3 rfl)) ?_
        refine RN.qq rfl rfl rfl rfl (by first | exact (q_load rfl sc_49 rfl (i := 0) rfl rfl) | exact (q_load rfl sc_49 rfl (i := 1) rfl rfl) | exact (q_load rfl sc_49 rfl (i := 2) rfl rfl) | exact (q_load rfl sc_49 rfl (i := 3) rfl rfl) | exact (q_load rfl sc_49 rfl (i := 4) rfl rfl)) ?_
        refine RN.qq rfl rfl rfl rfl (PRun.q (p_move rfl (by conv => lhs; whnf))) ?_
        refine RN.qq rfl rfl rfl rfl (PRun.q (by first | exact (p_mulN (b := 32) rfl rfl rfl (by omega)) | exact (p_mul rfl rfl rfl (by omega)))) ?_
        refine RN.qq rfl rfl rfl rfl (PRun.q (p_move rfl (by conv => lhs; whnf))) ?_
        refine RN.qq rfl rfl rfl rfl (PRun.q (by first | exact (p_addN rfl rfl rfl (by omega)) | exact (p_add rfl rfl rfl (by omega)))) ?_
        refine RN.qq rfl rfl rfl rfl (PRun.q (by first | exact (p_indexAddr1N rfl Try.underlying49 ts_5 rfl rfl (by omega)) | exact (p_indexAddr1 rfl Try.underlying49 ts_5 rfl rfl (by omega)))) ?_
        refine RN.qq rfl rfl rfl rfl (QRun.ent ((Ent.pull_drop (is := [3]) rfl).trans (Ent.cons (hA.trans (view_cells (by omega))) (Ent.refl _))) (q_load1C (k := i * 32 + k) (v := u8V l[i * 32 + k]) rfl sc_5 rfl (i := 0) rfl (by rw [List.getElem?_map, List.getElem?_eq_getElem hix]; rfl))) ?_
        refine RN.qq rfl rfl rfl rfl (PRun.q (p_fieldAddr rfl fa_54_7 rfl)) ?_
        refine RN.qq rfl rfl rfl rfl (PRun.q (p_indexAddr1N_a rfl Try.underlying52 ts_5 rfl rfl (by omega))) ?_
        refine RN.EN rfl rfl rfl (e_store rfl ts_5 rfl (by conv => lhs; whnf) (by first | rfl | assumption) (i := 0) rfl (by rw [pgF_length hk32 hkc]; omega)) ?_
        rintro _ _ ⟨rfl, rfl⟩
        refine RN.nil ?_
        refine hK16 _ _ ?_
        refine T.region (l := [0, 1, 2]) rfl ?_
        refine RN.qq rfl rfl rfl rfl (PRun.q (p_move rfl (by conv => lhs; whnf))) ?_
        refine RN.qq rfl rfl rfl rfl (PRun.q (by first | exact (p_addN (b := 1) rfl rfl rfl (by omega)) | exact (p_add rfl rfl rfl (by omega)))) ?_
        refine RN.qq rfl rfl rfl rfl (PRun.q (p_assign rfl (by conv => lhs; whnf))) ?_
        refine RN.nil ?_
        refine ⟨k + 1, ⟨by omega, by omega⟩, (by omega), (LiveIs.cons rfl (LiveIs.cons rfl (LiveIs.cons rfl (LiveIs.cons rfl (LiveIs.cons rfl (LiveIs.cons rfl LiveIs.nil)))))), (Ent.of_eq (by simp only [setN]; rw [pgF_set hix (by omega)]))⟩
      ·
        have hcl : (l.drop (i * 32)).length = l.length - i * 32 := List.length_drop
        have hE := pgF_end (kind := kind) (epoch := epoch) (group := group) (l := l) (i := i) (k := k) (.inr (by omega)) hk32 hkc
        refine T.exit ?_
        refine Post.seq_x ?_
        refine Post.seq_x ?_
        refine Post.block_hit ?_
        refine hK11 _ _ ?_
        rw [hE]
        refine T.region (l := [0, 1, 2, 3, 4]) rfl ?_
        refine RN.qq rfl rfl rfl rfl (PRun.q (p_move rfl (by conv => lhs; whnf))) ?_
        refine RN.qq rfl rfl rfl rfl (q_loadA rfl ag_54 ts_54 rfl (i := 0) rfl (by simp) (by rw [List.drop_zero, List.take_of_length_le (by simp)])) ?_
        refine RN.E rfl rfl rfl rfl (e_buildSlice1A rfl Try.underlying45 ti_54 rfl rfl (by simp) (by decide)) ?_
        rintro _ _ ⟨b60, rfl, rfl⟩
        refine RN.E rfl rfl rfl rfl (e_append rfl Try.underlying45 ni_45 ti_54 rfl rfl (i := 3) rfl (src_full (i := 0) rfl (by simp)) Pg.one (by omega)) ?_
        rintro v61 _ ⟨hv61, rfl⟩
        refine RN.qq rfl rfl rfl rfl (PRun.q (p_assign rfl (by conv => lhs; whnf))) ?_
        refine RN.nil ?_
        refine hK9 _ _ ?_
        refine T.region (l := [0, 1, 2]) rfl ?_
        refine RN.qq rfl rfl rfl rfl (PRun.q (p_move rfl (by conv => lhs; whnf))) ?_
        refine RN.qq rfl rfl rfl rfl (PRun.q (by first | exact (p_addN (b := 1) rfl rfl rfl (by omega)) | exact (p_add rfl rfl rfl (by omega)))) ?_
        refine RN.qq rfl rfl rfl rfl (PRun.q (p_assign rfl (by conv => lhs; whnf))) ?_
        refine RN.nil ?_
        refine ⟨(i + 1, v61), ⟨by omega, hv61⟩, (by simp; omega), (LiveIs.cons rfl (LiveIs.cons rfl (LiveIs.cons rfl (LiveIs.cons rfl LiveIs.nil)))), ?_⟩
        show Ent _ (sep [row b1 57 (strm kind epoch group (.slice q l.length cap)), vec 54 39 v61 (i + 1) (pgs (cutL kind epoch group l (i + 1))), A, Fr])
        rw [cutL_succ, pgs_push]
        exact Ent.pull_drop (is := [2, 2, 2, 2]) rfl
    ·
      have hE := pgF_end (kind := kind) (epoch := epoch) (group := group) (l := l) (i := i) (k := k) (.inl (by omega)) hk32 hkc
      refine RN.O rfl rfl rfl rfl ?_
      refine RN.O rfl rfl rfl rfl ?_
      refine RN.O rfl rfl rfl rfl ?_
      refine RN.O rfl rfl rfl rfl ?_
      refine RN.O rfl rfl rfl rfl ?_
      refine RN.O rfl rfl rfl rfl ?_
      refine RN.O rfl rfl rfl rfl ?_
      refine RN.O rfl rfl rfl rfl ?_
      refine RN.qq rfl rfl rfl rfl (PRun.q (p_pick_f rfl rfl (by conv => lhs; whnf))) ?_
      refine RN.nil ?_
      refine hK15 _ _ ?_
      refine T.cond_f rfl ?_
      refine T.exit ?_
      refine Post.seq_x ?_
      refine Post.seq_x ?_
      refine Post.block_hit ?_
      refine hK11 _ _ ?_
      rw [hE]
      refine T.region (l := [0, 1, 2, 3, 4]) rfl ?_
      refine RN.qq rfl rfl rfl rfl (PRun.q (p_move rfl (by conv => lhs; whnf))) ?_
      refine RN.qq rfl rfl rfl rfl (q_loadA rfl ag_54 ts_54 rfl (i := 0) rfl (by simp) (by rw [List.drop_zero, List.take_of_length_le (by simp)])) ?_
      refine RN.E rfl rfl rfl rfl (e_buildSlice1A rfl Try.underlying45 ti_54 rfl rfl (by simp) (by decide)) ?_
      rintro _ _ ⟨b60, rfl, rfl⟩
      refine RN.E rfl rfl rfl rfl (e_append rfl Try.underlying45 ni_45 ti_54 rfl rfl (i := 3) rfl (src_full (i := 0) rfl (by simp)) Pg.one (by omega)) ?_
      rintro v61 _ ⟨hv61, rfl⟩
      refine RN.qq rfl rfl rfl rfl (PRun.q (p_assign rfl (by conv => lhs; whnf))) ?_
      refine RN.nil ?_
      refine hK9 _ _ ?_
      refine T.region (l := [0, 1, 2]) rfl ?_
      refine RN.qq rfl rfl rfl rfl (PRun.q (p_move rfl (by conv => lhs; whnf))) ?_
      refine RN.qq rfl rfl rfl rfl (PRun.q (by first | exact (p_addN (b := 1) rfl rfl rfl (by omega)) | exact (p_add rfl rfl rfl (by omega)))) ?_
      refine RN.qq rfl rfl rfl rfl (PRun.q (p_assign rfl (by conv => lhs; whnf))) ?_
      refine RN.nil ?_
      refine ⟨(i + 1, v61), ⟨by omega, hv61⟩, (by simp; omega), (LiveIs.cons rfl (LiveIs.cons rfl (LiveIs.cons rfl (LiveIs.cons rfl LiveIs.nil)))), ?_⟩
      show Ent _ (sep [row b1 57 (strm kind epoch group (.slice q l.length cap)), vec 54 39 v61 (i + 1) (pgs (cutL kind epoch group l (i + 1))), A, Fr])
      rw [cutL_succ, pgs_push]
      exact Ent.pull_drop (is := [2, 2, 2, 2]) rfl
  ·
    have hin : i = pagesN l.length := by omega
    subst hin
    refine T.exit ?_
    refine Post.seq_x ?_
    refine Post.seq_x ?_
    refine Post.block_hit ?_
    refine hK4 _ _ ?_
    refine T.seq fun K17 hK17 => ?_
    refine T.region (l := [0, 1]) rfl ?_
    refine RN.qq rfl rfl rfl rfl (PRun.q (p_move rfl (by conv => lhs; whnf))) ?_
    refine RN.qq rfl rfl rfl rfl (PRun.q (p_assign rfl (by conv => lhs; whnf))) ?_
    refine RN.nil ?_
    refine hK17 _ _ ?_
    refine T.ret ?_
    refine bodyQ_ret [vec 54 39 v (pagesN l.length) (pgs (cutL kind epoch group l (pagesN l.length))), A] (RetRun.tmp RetRun.nil) ⟨hv, rfl⟩ (Ent.drop _ _)

end Go.Proofs.Yticfabhcfdmbjaa
