/-
  Walks of leaf.
-/
import Derived.Test.YticfabhcfdmbjaaYtL1
set_option linter.unusedVariables false
set_option linter.unusedSimpArgs false
namespace Go.Proofs.Yticfabhcfdmbjaa
open Go Go.Sl Go.Proofs
set_option maxRecDepth 20000
open Go.Mo
theorem Cut_spec (kind epoch group : Int) (A : Assn) (bv : Value) (l : List UInt8) (hA : Ent A (view 1 bv l.length (l.map u8V))) : Ctr Try.prog 24 [.agg (strm kind epoch group bv).toArray] [A] (CutQ A kind epoch group l) := by
  refine Ctr.of_body Try.func24 rfl (by kernel_rfl) Try.ntmps24 rfl rfl (fun Fr => ?_)
  refine T.peek (A := view 1 bv l.length (l.map u8V)) ((Ent.head _ _).trans hA) view_form ?_
  rintro ⟨q, cap, rfl, hcap, hcm, hqf⟩
  refine T.seq fun K1 hK1 => ?_
  refine T.region (l := [0, 1, 2]) rfl ?_
  refine RN.E rfl rfl rfl rfl (e_box rfl rfl rfl) ?_
  rintro _ _ ⟨b1, rfl, rfl⟩
  refine RN.qq rfl rfl rfl rfl (PRun.q (p_assign rfl (by conv => lhs; whnf))) ?_
  refine RN.qq rfl rfl rfl rfl (PRun.q (p_assign rfl (by conv => lhs; whnf))) ?_
  refine RN.nil ?_
  refine hK1 _ _ ?_
  refine T.cut (G := Unit) (fun ⟨⟩ => ¬ (kind ≠ 2 ∧ kind ≠ 3) ∧ l.length ≤ 65536) (fun ⟨⟩ => [(1, ptr b1 0)]) (fun ⟨⟩ => [row b1 51 (strm kind epoch group (.slice q l.length cap)), A, Fr]) ?_ ?_
  ·
    refine T.block ?_
    refine T.seq fun K3 hK3 => ?_
    refine T.region (l := [0, 1, 2, 3, 4, 5, 6, 7, 8]) rfl ?_
    refine RN.qq rfl rfl rfl rfl (PRun.q (p_fieldAddr rfl fa_51_0 rfl)) ?_
    refine RN.qq rfl rfl rfl rfl (by first | exact (q_load rfl sc_3 rfl (i := 0) rfl rfl) | exact (q_load rfl sc_3 rfl (i := 1) rfl rfl) | exact (q_load rfl sc_3 rfl (i := 2) rfl rfl) | exact (q_load rfl sc_3 rfl (i := 3) rfl rfl) | exact (q_load rfl sc_3 rfl (i := 4) rfl rfl)) ?_
    refine RN.qq rfl rfl rfl rfl (PRun.q (p_neq rfl rfl rfl)) ?_
    refine RN.qq rfl rfl rfl rfl (PRun.q (p_move rfl (by conv => lhs; whnf))) ?_
    first | refine RN.split_dec 12 rfl (fun h12 => ?_) (fun h12 => ?_) | refine RN.split 12 rfl (fun h12 => ?_) (fun h12 => ?_)
    ·
      refine RN.qq rfl rfl rfl rfl (PRun.q (p_fieldAddr rfl fa_51_0 rfl)) ?_
      refine RN.qq rfl rfl rfl rfl (by first | exact (q_load rfl sc_3 rfl (i := 0) rfl rfl) | exact (q_load rfl sc_3 rfl (i := 1) rfl rfl) | exact (q_load rfl sc_3 rfl (i := 2) rfl rfl) | exact (q_load rfl sc_3 rfl (i := 3) rfl rfl) | exact (q_load rfl sc_3 rfl (i := 4) rfl rfl)) ?_
      refine RN.qq rfl rfl rfl rfl (PRun.q (p_neq rfl rfl rfl)) ?_
      refine RN.qq rfl rfl rfl rfl (PRun.q (p_pick_t rfl rfl (by conv => lhs; whnf))) ?_
      refine RN.qq rfl rfl rfl rfl (PRun.q (p_assign rfl (by conv => lhs; whnf))) ?_
      refine RN.nil ?_
      refine hK3 _ _ ?_
      first | refine T.cond_dec rfl (fun h8 => ?_) (fun h8 => ?_) | refine T.cond rfl (fun h8 => ?_) (fun h8 => ?_)
      ·
        have hk : kind ≠ 2 ∧ kind ≠ 3 := ⟨h12, h8⟩
        refine T.seq fun K4 hK4 => ?_
        refine T.region (l := [0, 1]) rfl ?_
        refine RN.qq rfl rfl rfl rfl (PRun.q (p_assign rfl (by conv => lhs; whnf))) ?_
        refine RN.qq rfl rfl rfl rfl (PRun.q (p_assign rfl (by conv => lhs; whnf))) ?_
        refine RN.nil ?_
        refine hK4 _ _ ?_
        refine T.ret ?_
        refine Post.block_r ?_
        refine Post.seq_r ?_
        refine bodyQ_ret [A] (RetRun.tmp (RetRun.tmp RetRun.nil)) (by unfold CutQ; rw [if_pos hk]; exact ⟨rfl, rfl⟩) (Ent.drop _ _)
      ·
        refine T.seq fun K5 hK5 => ?_
        refine T.region (l := [0, 1, 2, 3, 4]) rfl ?_
        refine RN.qq rfl rfl rfl rfl (PRun.q (p_fieldAddr rfl fa_51_3 rfl)) ?_
        refine RN.qq rfl rfl rfl rfl (by first | exact (q_load rfl sc_49 rfl (i := 0) rfl rfl) | exact (q_load rfl sc_49 rfl (i := 1) rfl rfl) | exact (q_load rfl sc_49 rfl (i := 2) rfl rfl) | exact (q_load rfl sc_49 rfl (i := 3) rfl rfl) | exact (q_load rfl sc_49 rfl (i := 4) rfl rfl)) ?_
        refine RN.qq rfl rfl rfl rfl (PRun.q (p_len rfl Try.underlying49 rfl)) ?_
        refine RN.qq rfl rfl rfl rfl (PRun.q (p_gtr rfl rfl rfl)) ?_
        refine RN.qq rfl rfl rfl rfl (PRun.q (p_assign rfl (by conv => lhs; whnf))) ?_
        refine RN.nil ?_
        refine hK5 _ _ ?_
        first | refine T.cond_dec rfl (fun h17 => ?_) (fun h17 => ?_) | refine T.cond rfl (fun h17 => ?_) (fun h17 => ?_)
        ·
          have hlen : 65536 < l.length := by omega
          refine T.seq fun K6 hK6 => ?_
          refine T.region (l := [0, 1]) rfl ?_
          refine RN.qq rfl rfl rfl rfl (PRun.q (p_assign rfl (by conv => lhs; whnf))) ?_
          refine RN.qq rfl rfl rfl rfl (PRun.q (p_assign rfl (by conv => lhs; whnf))) ?_
          refine RN.nil ?_
          refine hK6 _ _ ?_
          refine T.ret ?_
          refine Post.block_r ?_
          refine Post.seq_r ?_
          refine bodyQ_ret [A] (RetRun.tmp (RetRun.tmp RetRun.nil)) (by unfold CutQ; rw [if_neg (fun hh => h8 hh.2), if_pos hlen]; exact ⟨rfl, rfl⟩) (Ent.drop _ _)
        ·
          have hlen : l.length ≤ 65536 := by omega
          refine T.skip ?_
          refine ⟨(), ⟨fun hh => h8 hh.2, hlen⟩, (LiveIs.cons rfl LiveIs.nil), Ent.refl _⟩
    ·
      refine RN.O rfl rfl rfl rfl ?_
      refine RN.O rfl rfl rfl rfl ?_
      refine RN.O rfl rfl rfl rfl ?_
      refine RN.qq rfl rfl rfl rfl (PRun.q (p_pick_f rfl rfl (by conv => lhs; whnf))) ?_
      refine RN.qq rfl rfl rfl rfl (PRun.q (p_assign rfl (by conv => lhs; whnf))) ?_
      refine RN.nil ?_
      refine hK3 _ _ ?_
      refine T.cond_f rfl ?_
      refine T.seq fun K7 hK7 => ?_
      refine T.region (l := [0, 1, 2, 3, 4]) rfl ?_
      refine RN.qq rfl rfl rfl rfl (PRun.q (p_fieldAddr rfl fa_51_3 rfl)) ?_
      refine RN.qq rfl rfl rfl rfl (by first | exact (q_load rfl sc_49 rfl (i := 0) rfl rfl) | exact (q_load rfl sc_49 rfl (i := 1) rfl rfl) | exact (q_load rfl sc_49 rfl (i := 2) rfl rfl) | exact (q_load rfl sc_49 rfl (i := 3) rfl rfl) | exact (q_load rfl sc_49 rfl (i := 4) rfl rfl)) ?_
      refine RN.qq rfl rfl rfl rfl (PRun.q (p_len rfl Try.underlying49 rfl)) ?_
      refine RN.qq rfl rfl rfl rfl (PRun.q (p_gtr rfl rfl rfl)) ?_
      refine RN.qq rfl rfl rfl rfl (PRun.q (p_assign rfl (by conv => lhs; whnf))) ?_
      refine RN.nil ?_
      refine hK7 _ _ ?_
      first | refine T.cond_dec rfl (fun h17 => ?_) (fun h17 => ?_) | refine T.cond rfl (fun h17 => ?_) (fun h17 => ?_)
      ·
        have hlen : 65536 < l.length := by omega
        refine T.seq fun K8 hK8 => ?_
        refine T.region (l := [0, 1]) rfl ?_
        refine RN.qq rfl rfl rfl rfl (PRun.q (p_assign rfl (by conv => lhs; whnf))) ?_
        refine RN.qq rfl rfl rfl rfl (PRun.q (p_assign rfl (by conv => lhs; whnf))) ?_
        refine RN.nil ?_
        refine hK8 _ _ ?_
        refine T.ret ?_
        refine Post.block_r ?_
        refine Post.seq_r ?_
        refine bodyQ_ret [A] (RetRun.tmp (RetRun.tmp RetRun.nil)) (by unfold CutQ; rw [if_neg (fun hh => h12 hh.1), if_pos hlen]; exact ⟨rfl, rfl⟩) (Ent.drop _ _)
      ·
        have hlen : l.length ≤ 65536 := by omega
        refine T.skip ?_
        refine ⟨(), ⟨fun hh => h12 hh.1, hlen⟩, (LiveIs.cons rfl LiveIs.nil), Ent.refl _⟩
  ·
    rintro ⟨⟩ e2 ⟨hk, hlen⟩
    refine T.seq fun K9 hK9 => ?_
    refine T.region (l := [0, 1, 2, 3, 4]) rfl ?_
    refine RN.qq rfl rfl rfl rfl (PRun.q (p_fieldAddr rfl fa_51_3 rfl)) ?_
    refine RN.qq rfl rfl rfl rfl (by first | exact (q_load rfl sc_49 rfl (i := 0) rfl rfl) | exact (q_load rfl sc_49 rfl (i := 1) rfl rfl) | exact (q_load rfl sc_49 rfl (i := 2) rfl rfl) | exact (q_load rfl sc_49 rfl (i := 3) rfl rfl) | exact (q_load rfl sc_49 rfl (i := 4) rfl rfl)) ?_
    refine RN.qq rfl rfl rfl rfl (PRun.q (p_len rfl Try.underlying49 rfl)) ?_
    refine RN.C [] rfl rfl rfl rfl (c_call rfl rfl) (Pages_spec (l.length : Int)) rfl ?_
    rintro _ _ ⟨rfl, rfl⟩
    rw [if_neg (by omega), Int.toNat_natCast]
    have hpn := pagesN_le hlen
    refine RN.qq rfl rfl rfl rfl (PRun.q (p_assign rfl (by conv => lhs; whnf))) ?_
    refine RN.nil ?_
    refine hK9 _ _ ?_
    refine T.seq fun K10 hK10 => ?_
    refine T.region (l := [0]) rfl ?_
    refine RN.qq rfl rfl rfl rfl (PRun.q (p_assign rfl (by conv => lhs; whnf))) ?_
    refine RN.nil ?_
    refine hK10 _ _ ?_
    refine T.seq fun K11 hK11 => ?_
    refine T.seq fun K12 hK12 => ?_
    refine T.region (l := [0, 1]) rfl ?_
    refine RN.qq rfl rfl rfl rfl (PRun.q (p_move rfl (by conv => lhs; whnf))) ?_
    refine RN.qq rfl rfl rfl rfl (PRun.q (p_move rfl (by conv => lhs; whnf))) ?_
    refine RN.nil ?_
    refine hK12 _ _ ?_
    refine T.block ?_
    refine T.loop (G := Nat × Value) (fun ⟨i, v⟩ => i ≤ pagesN l.length ∧ v.oneCell' = true) (fun ⟨i, v⟩ => [(1, ptr b1 0), (4, intV (pagesN l.length)), (5, v), (26, intV (pagesN l.length)), (27, intV i)]) (fun ⟨i, v⟩ => [row b1 51 (strm kind epoch group (.slice q l.length cap)), vec 54 39 v i (pgs (cutL kind epoch group l i)), A, Fr]) (fun ⟨i, v⟩ => pagesN l.length - i) (0, .slice none 0 0) ⟨Nat.zero_le _, rfl⟩ (LiveIs.cons rfl (LiveIs.cons rfl (LiveIs.cons rfl (LiveIs.cons rfl (LiveIs.cons rfl LiveIs.nil))))) (Ent.cons (Ent.refl _) (Ent.vec_nil' (el := 54) (sz := 39))) ?_
    rintro ⟨i, v⟩ e13 ⟨hik, hv⟩
    dsimp only
    refine T.seq fun K14 hK14 => ?_
    refine T.region (l := [0]) rfl ?_
    refine RN.qq rfl rfl rfl rfl (PRun.q (p_lss rfl rfl rfl)) ?_
    refine RN.nil ?_
    refine hK14 _ _ ?_
    refine T.seq fun K15 hK15 => ?_
    first | refine T.cond_dec rfl (fun h28 => ?_) (fun h28 => ?_) | refine T.cond rfl (fun h28 => ?_) (fun h28 => ?_)
    ·
      have hin : i < pagesN l.length := by omega
      refine T.skip ?_
      refine hK15 _ _ ?_
      refine T.seq fun K16 hK16 => ?_
      refine T.block ?_
      refine T.seq fun K17 hK17 => ?_
      refine T.region (l := [0, 1]) rfl ?_
      refine RN.qq rfl rfl rfl rfl (PRun.q (p_move rfl (by conv => lhs; whnf))) ?_
      refine RN.qq rfl rfl rfl rfl (PRun.q (p_assign rfl (by conv => lhs; whnf))) ?_
      refine RN.nil ?_
      refine hK17 _ _ ?_
      refine T.seq fun K18 hK18 => ?_
      refine T.region (l := [0, 1, 2, 3, 4, 5, 6, 7, 8, 9, 10, 11, 12, 13, 14, 15, 16]) rfl ?_
      refine RN.qq rfl rfl rfl rfl (PRun.q (p_fieldAddr rfl fa_51_0 rfl)) ?_
      refine RN.qq rfl rfl rfl rfl (by first | exact (q_load rfl sc_3 rfl (i := 0) rfl rfl) | exact (q_load rfl sc_3 rfl (i := 1) rfl rfl) | exact (q_load rfl sc_3 rfl (i := 2) rfl rfl) | exact (q_load rfl sc_3 rfl (i := 3) rfl rfl) | exact (q_load rfl sc_3 rfl (i := 4) rfl rfl)) ?_
      refine RN.qq rfl rfl rfl rfl (PRun.q (p_fieldAddr rfl fa_51_3 rfl)) ?_
      refine RN.qq rfl rfl rfl rfl (by first | exact (q_load rfl sc_49 rfl (i := 0) rfl rfl) | exact (q_load rfl sc_49 rfl (i := 1) rfl rfl) | exact (q_load rfl sc_49 rfl (i := 2) rfl rfl) | exact (q_load rfl sc_49 rfl (i := 3) rfl rfl) | exact (q_load rfl sc_49 rfl (i := 4) rfl rfl)) ?_
      refine RN.qq rfl rfl rfl rfl (PRun.q (p_len rfl Try.underlying49 rfl)) ?_
      refine RN.qq rfl rfl rfl rfl (PRun.q (p_conv_u32 rfl Try.underlying3 Try.underlying48 rfl (by omega))) ?_
      refine RN.qq rfl rfl rfl rfl (PRun.q (p_fieldAddr rfl fa_51_1 rfl)) ?_
      refine RN.qq rfl rfl rfl rfl (by first | exact (q_load rfl sc_48 rfl (i := 0) rfl rfl) | exact (q_load rfl sc_48 rfl (i := 1) rfl rfl) | exact (q_load rfl sc_48 rfl (i := 2) rfl rfl) | exact (q_load rfl sc_48 rfl (i := 3) rfl rfl) | exact (q_load rfl sc_48 rfl (i := 4) rfl rfl)) ?_
      refine RN.qq rfl rfl rfl rfl (PRun.q (p_fieldAddr rfl fa_51_2 rfl)) ?_
      refine RN.qq rfl rfl rfl rfl (by first | exact (q_load rfl sc_48 rfl (i := 0) rfl rfl) | exact (q_load rfl sc_48 rfl (i := 1) rfl rfl) | exact (q_load rfl sc_48 rfl (i := 2) rfl rfl) | exact (q_load rfl sc_48 rfl (i := 3) rfl rfl) | exact (q_load rfl sc_48 rfl (i := 4) rfl rfl)) ?_
      refine RN.qq rfl rfl rfl rfl (PRun.q (p_move rfl (by conv => lhs; whnf))) ?_
      refine RN.qq rfl rfl rfl rfl (PRun.q (p_conv_u32 rfl Try.underlying3 Try.underlying48 rfl (by omega))) ?_
      refine RN.qq rfl rfl rfl rfl (PRun.q (p_move rfl (by conv => lhs; whnf))) ?_
      refine RN.qq rfl rfl rfl rfl (PRun.q (p_conv_u32 rfl Try.underlying3 Try.underlying48 rfl (by omega))) ?_
      refine RN.qq rfl rfl rfl rfl (PRun.q (p_build (cs := (pageOf kind epoch group l i).blank.cells) rfl pl_54 ti_54 rfl)) ?_
      refine RN.E rfl rfl rfl rfl (e_alloc rfl ti_54) ?_
      rintro _ _ ⟨b7, rfl, rfl⟩
      refine RN.EN rfl rfl rfl (by first | exact (e_storeA rfl ts_54 rfl rfl rfl Pg.one (i := 0) rfl (by simp)) | exact (e_storeA rfl ts_54 rfl rfl rfl Pg.one (i := 1) rfl (by simp)) | exact (e_storeA rfl ts_54 rfl rfl rfl Pg.one (i := 2) rfl (by simp)) | exact (e_storeA rfl ts_54 rfl rfl rfl Pg.one (i := 3) rfl (by simp)) | exact (e_storeA rfl ts_54 rfl rfl rfl Pg.one (i := 4) rfl (by simp))) ?_
      rintro _ _ ⟨rfl, rfl⟩
      simp only [setN]
      rw [blank_store rfl]
      refine RN.nil ?_
      refine hK18 _ _ ?_
      refine T.seq fun K19 hK19 => ?_
      refine T.regionD (z := 8) (Bs := [row b1 51 (strm kind epoch group (.slice q l.length cap))]) (l := [(0, .pure), (1, .pure), (2, .pure), (3, .load), (4, .pure), (5, .pure), (6, .pure), (7, .eff)]) mixed (by kernel_rfl) (by first | exact Ent.refl _ | exact Ent.pull_drop (is := [0]) rfl | exact Ent.pull_drop (is := [1]) rfl | exact Ent.pull_drop (is := [2]) rfl | exact Ent.pull_drop (is := [3]) rfl | exact Ent.pull_drop (is := [4]) rfl | exact Ent.pull_drop (is := [5]) rfl | exact Ent.pull_drop (is := [6]) rfl | exact Ent.pull_drop (is := [7]) rfl) ?_
      refine RD.pp rfl rfl rfl rfl (p_fieldAddr rfl fa_54_7 rfl) ?_
      refine RD.pp rfl rfl rfl rfl (by first | exact (p_slice_a_all rfl Try.underlying52 ts_5 rfl) | exact (p_sliceN_a (l := 0) rfl Try.underlying52 ts_5 rfl rfl rfl (by omega)) | exact (p_slice_a rfl Try.underlying52 ts_5 rfl rfl rfl (by omega))) ?_
      refine RD.pp rfl rfl rfl rfl (p_fieldAddr rfl fa_51_3 rfl) ?_
      refine RD.qq rfl rfl rfl rfl (by first | exact (q_load rfl sc_49 rfl (i := 0) rfl rfl) | exact (q_load rfl sc_49 rfl (i := 1) rfl rfl) | exact (q_load rfl sc_49 rfl (i := 2) rfl rfl) | exact (q_load rfl sc_49 rfl (i := 3) rfl rfl) | exact (q_load rfl sc_49 rfl (i := 4) rfl rfl)) (by first | exact Ent.refl _ | exact Ent.pull_drop (is := [0]) rfl | exact Ent.pull_drop (is := [1]) rfl | exact Ent.pull_drop (is := [2]) rfl | exact Ent.pull_drop (is := [3]) rfl | exact Ent.pull_drop (is := [4]) rfl | exact Ent.pull_drop (is := [5]) rfl | exact Ent.pull_drop (is := [6]) rfl | exact Ent.pull_drop (is := [7]) rfl) ?_
      refine RD.pp rfl rfl rfl rfl (p_move rfl (by conv => lhs; whnf)) ?_
      refine RD.pp rfl rfl rfl rfl (by first | exact (p_mulN (b := 32) rfl rfl rfl (by omega)) | exact (p_mul rfl rfl rfl (by omega))) ?_
      refine RD.pp rfl rfl rfl rfl (run_sliceAny (l := i * 32) (h := l.length) rfl Try.underlying49 ts_5 rfl rfl rfl ⟨by omega, hcap⟩) ?_
      refine RD.E rfl rfl rfl rfl (e_copy rfl Try.underlying49 ts_5 rfl (i := 0) rfl (by rw [blank_length]; decide) (Src.ent ((Ent.pull_drop (is := [3]) rfl).trans (Ent.cons (hA.trans (view_subU (i := i * 32) (by omega))) (Ent.refl _))) (src_view (i := 0) rfl (by simp))) one_u8) (by rintro _ _ ⟨rfl, rfl⟩; exact .inl (by first | exact Ent.refl _ | exact Ent.pull_drop (is := [0]) rfl | exact Ent.pull_drop (is := [1]) rfl | exact Ent.pull_drop (is := [2]) rfl | exact Ent.pull_drop (is := [3]) rfl | exact Ent.pull_drop (is := [4]) rfl | exact Ent.pull_drop (is := [5]) rfl | exact Ent.pull_drop (is := [6]) rfl | exact Ent.pull_drop (is := [7]) rfl)) ?_
      rintro _ _ ⟨rfl, rfl⟩
      simp only [setN]
      rw [blank_lay (p := pageOf kind epoch group l i) rfl]
      refine RD.nil ?_
      refine hK19 _ _ ?_
      refine T.region (l := [0, 1, 2, 3, 4]) rfl ?_
      refine RN.qq rfl rfl rfl rfl (PRun.q (p_move rfl (by conv => lhs; whnf))) ?_
      refine RN.qq rfl rfl rfl rfl (q_loadA rfl ag_54 ts_54 rfl (i := 0) rfl (by simp) (by rw [List.drop_zero, List.take_of_length_le (by simp)])) ?_
      refine RN.E rfl rfl rfl rfl (e_buildSlice1A rfl Try.underlying45 ti_54 rfl rfl (by simp) (by decide)) ?_
      rintro _ _ ⟨b55, rfl, rfl⟩
      refine RN.E rfl rfl rfl rfl (e_append rfl Try.underlying45 ni_45 ti_54 rfl rfl (i := 3) rfl (src_full (i := 0) rfl (by simp)) Pg.one (by omega)) ?_
      rintro v56 _ ⟨hv56, rfl⟩
      refine RN.qq rfl rfl rfl rfl (PRun.q (p_assign rfl (by conv => lhs; whnf))) ?_
      refine RN.nil ?_
      refine hK16 _ _ ?_
      refine T.region (l := [0, 1]) rfl ?_
      refine RN.qq rfl rfl rfl rfl (PRun.q (by first | exact (p_addN (b := 1) rfl rfl rfl (by omega)) | exact (p_add rfl rfl rfl (by omega)))) ?_
      refine RN.qq rfl rfl rfl rfl (PRun.q (p_move rfl (by conv => lhs; whnf))) ?_
      refine RN.nil ?_
      refine ⟨(i + 1, v56), ⟨by omega, hv56⟩, (by simp; omega), (LiveIs.cons rfl (LiveIs.cons rfl (LiveIs.cons rfl (LiveIs.cons rfl (LiveIs.cons rfl LiveIs.nil))))), ?_⟩
      show Ent _ (sep [row b1 51 (strm kind epoch group (.slice q l.length cap)), vec 54 39 v56 (i + 1) (pgs (cutL kind epoch group l (i + 1))), A, Fr])
      rw [cutL_succ, pgs_push]
      exact Ent.pull_drop (is := [2, 2, 2, 2]) rfl
    ·
      have hin : i = pagesN l.length := by omega
      subst hin
      refine T.exit ?_
      refine Post.seq_x ?_
      refine Post.seq_x ?_
      refine Post.block_hit ?_
      refine hK11 _ _ ?_
      refine T.seq fun K20 hK20 => ?_
      refine T.region (l := [0, 1, 2]) rfl ?_
      refine RN.qq rfl rfl rfl rfl (PRun.q (p_move rfl (by conv => lhs; whnf))) ?_
      refine RN.qq rfl rfl rfl rfl (PRun.q (p_assign rfl (by conv => lhs; whnf))) ?_
      refine RN.qq rfl rfl rfl rfl (PRun.q (p_assign rfl (by conv => lhs; whnf))) ?_
      refine RN.nil ?_
      refine hK20 _ _ ?_
      refine T.ret ?_
      refine bodyQ_ret [vec 54 39 v (pagesN l.length) (pgs (cutL kind epoch group l (pagesN l.length))), A] (RetRun.tmp (RetRun.tmp RetRun.nil)) (by unfold CutQ; rw [if_neg hk, if_neg (by omega)]; exact ⟨v, rfl, hv, rfl⟩) (Ent.drop _ _)

end Go.Proofs.Yticfabhcfdmbjaa
