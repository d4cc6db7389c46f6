/-
  LeafWhole walked.
-/
import Derived.Test.YticfabhcfdmbjaaYtP54
import Derived.Test.YticfabhcfdmbjaaYtL6
import Derived.Test.YticfabhcfdmbjaaModelW
set_option linter.unusedVariables false
set_option linter.unusedSimpArgs false
namespace Go.Proofs.Yticfabhcfdmbjaa
open Go Go.Sl Go.Proofs
set_option maxRecDepth 20000
open Go.Mo
theorem LeafWhole_walk (haw : Ctr Try.prog 23 [] [] (fun v Ps => v = .bool true ∧ Ps = [])) (turn less : Int) (A : Assn) (bv ov : Value) (l m : List UInt8) (hA : Ent A (view 1 bv l.length (l.map u8V))) (hB : Ent A (view 1 ov m.length (m.map u8V))) : Ctr Try.prog 9 [bv, .int .i64 turn, .int .i64 less, ov] [A] (fun v Ps => v = .bool true ∧ Ps = [A]) := by
  refine Ctr.of_body Try.func9 rfl (by kernel_rfl) Try.ntmps9 rfl rfl (fun Fr => ?_)
  refine T.peek (A := view 1 bv l.length (l.map u8V)) ((Ent.head _ _).trans hA) view_form ?_
  rintro ⟨q, cap, rfl, hcap, hcm, hqf⟩
  refine T.peek (A := view 1 ov m.length (m.map u8V)) ((Ent.head _ _).trans hB) view_form ?_
  rintro ⟨q2, cap2, rfl, hcap2, hcm2, hqf2⟩
  refine T.seq fun K1 hK1 => ?_
  refine T.region (l := [0]) rfl ?_
  refine RN.qq rfl rfl rfl rfl (PRun.q (p_assign rfl (by conv => lhs; whnf))) ?_
  refine RN.nil ?_
  refine hK1 _ _ ?_
  refine T.seq fun K2 hK2 => ?_
  refine T.seq fun K3 hK3 => ?_
  refine T.region (l := [0, 1]) rfl ?_
  refine RN.C [] rfl rfl rfl rfl (c_call rfl rfl) (haw) rfl ?_
  rintro _ _ ⟨rfl, rfl⟩
  refine RN.qq rfl rfl rfl rfl (PRun.q (by first | exact (p_not_dec rfl rfl) | exact (p_not rfl rfl))) ?_
  refine RN.nil ?_
  refine hK3 _ _ ?_
  refine T.known 18 rfl (show _ = Value.bool false from rfl) ?_
  refine T.cond_f rfl ?_
  refine T.skip ?_
  refine hK2 _ _ ?_
  refine T.cut (G := Unit) (fun ⟨⟩ => l.length ≤ 2000 ∧ m.length ≤ 2000) (fun ⟨⟩ => [(0, .slice q l.length cap), (1, .int .i64 turn), (2, .int .i64 less), (3, .slice q2 m.length cap2)]) (fun ⟨⟩ => [A, Fr]) ?_ ?_
  ·
    refine T.seq fun K5 hK5 => ?_
    refine T.region (l := [0, 1, 2, 3, 4, 5, 6, 7]) rfl ?_
    refine RN.qq rfl rfl rfl rfl (PRun.q (p_move rfl (by conv => lhs; whnf))) ?_
    refine RN.qq rfl rfl rfl rfl (PRun.q (p_len rfl Try.underlying49 rfl)) ?_
    refine RN.qq rfl rfl rfl rfl (PRun.q (p_gtr rfl rfl rfl)) ?_
    refine RN.qq rfl rfl rfl rfl (PRun.q (p_move rfl (by conv => lhs; whnf))) ?_
    first | refine RN.split_dec 22 rfl (fun h22 => ?_) (fun h22 => ?_) | refine RN.split 22 rfl (fun h22 => ?_) (fun h22 => ?_)
    ·
      refine RN.O rfl rfl rfl rfl ?_
      refine RN.O rfl rfl rfl rfl ?_
      refine RN.O rfl rfl rfl rfl ?_
      refine RN.qq rfl rfl rfl rfl (PRun.q (p_pick_t rfl rfl (by conv => lhs; whnf))) ?_
      refine RN.nil ?_
      refine hK5 _ _ ?_
      refine T.cond_t rfl ?_
      refine T.seq fun K6 hK6 => ?_
      refine T.region (l := [0]) rfl ?_
      refine RN.qq rfl rfl rfl rfl (PRun.q (p_assign rfl (by conv => lhs; whnf))) ?_
      refine RN.nil ?_
      refine hK6 _ _ ?_
      refine T.ret ?_
      refine Post.seq_r ?_
      refine bodyQ_ret [A] (RetRun.tmp RetRun.nil) ⟨rfl, rfl⟩ (Ent.refl _)
    ·
      refine RN.qq rfl rfl rfl rfl (PRun.q (p_move rfl (by conv => lhs; whnf))) ?_
      refine RN.qq rfl rfl rfl rfl (PRun.q (p_len rfl Try.underlying49 rfl)) ?_
      refine RN.qq rfl rfl rfl rfl (PRun.q (p_gtr rfl rfl rfl)) ?_
      refine RN.qq rfl rfl rfl rfl (PRun.q (p_pick_f rfl rfl (by conv => lhs; whnf))) ?_
      refine RN.nil ?_
      refine hK5 _ _ ?_
      first | refine T.cond_dec rfl (fun h26 => ?_) (fun h26 => ?_) | refine T.cond rfl (fun h26 => ?_) (fun h26 => ?_)
      ·
        refine T.seq fun K7 hK7 => ?_
        refine T.region (l := [0]) rfl ?_
        refine RN.qq rfl rfl rfl rfl (PRun.q (p_assign rfl (by conv => lhs; whnf))) ?_
        refine RN.nil ?_
        refine hK7 _ _ ?_
        refine T.ret ?_
        refine Post.seq_r ?_
        refine bodyQ_ret [A] (RetRun.tmp RetRun.nil) ⟨rfl, rfl⟩ (Ent.refl _)
      ·
        refine T.skip ?_
        refine ⟨(), ⟨by omega, by omega⟩, (LiveIs.cons rfl (LiveIs.cons rfl (LiveIs.cons rfl (LiveIs.cons rfl LiveIs.nil)))), (Ent.refl _)⟩
  ·
    rintro ⟨⟩ e4 ⟨hl2, hm2⟩
    have hl6 : l.length ≤ 65536 := by omega
    have hm6 : m.length ≤ 65536 := by omega
    have hn5 := pagesN_le hl6
    have hn6 := pagesN_le hm6
    have e5 : (cutL 3 3 5 l (pagesN l.length)).length = pagesN l.length := cutL_length ..
    have e6 : (cutL 3 3 6 m (pagesN m.length)).length = pagesN m.length := cutL_length ..
    have h60 : 0 < (cutL 3 3 6 m (pagesN m.length)).length := by omega
    have h05 : U32 3 := by unfold U32; omega
    have h05a : U32 5 := by unfold U32; omega
    have h06a : U32 6 := by unfold U32; omega
    refine T.seq fun K8 hK8 => ?_
    refine T.region (l := [0, 1, 2, 3, 4, 5, 6, 7]) rfl ?_
    refine RN.qq rfl rfl rfl rfl (PRun.q (p_move rfl (by conv => lhs; whnf))) ?_
    refine RN.qq rfl rfl rfl rfl (PRun.q (p_build (cs := strm 3 3 5 (.slice q l.length cap)) rfl pl_51 ti_51 rfl)) ?_
    refine RN.C [0] rfl rfl rfl rfl (c_call rfl rfl) (Cut_tot 3 3 5 A (.slice q l.length cap) l hA) rfl ?_
    rintro _ _ ⟨pv, er, pages, rfl, hpv, rfl, hcut⟩
    obtain ⟨rfl, rfl⟩ : er = 0 ∧ pages = (cutL 3 3 5 l (pagesN l.length)) := by
      rcases hcut with ⟨h1, h2, h3⟩ | ⟨h1, h2, h3, h4⟩ | ⟨h1, h2, h3, h4⟩
      · exact absurd rfl h1.2
      · omega
      · exact ⟨h3, h4⟩
    refine RN.qq rfl rfl rfl rfl (PRun.q (p_move rfl (by conv => lhs; whnf))) ?_
    refine RN.qq rfl rfl rfl rfl (PRun.q (p_extract rfl rfl rfl)) ?_
    refine RN.qq rfl rfl rfl rfl (PRun.q (p_extract rfl rfl rfl)) ?_
    refine RN.qq rfl rfl rfl rfl (PRun.q (p_assign rfl (by conv => lhs; whnf))) ?_
    refine RN.qq rfl rfl rfl rfl (PRun.q (p_assign rfl (by conv => lhs; whnf))) ?_
    refine RN.nil ?_
    refine hK8 _ _ ?_
    refine T.seq fun K9 hK9 => ?_
    refine T.region (l := [0, 1, 2, 3, 4, 5, 6, 7]) rfl ?_
    refine RN.qq rfl rfl rfl rfl (PRun.q (p_move rfl (by conv => lhs; whnf))) ?_
    refine RN.qq rfl rfl rfl rfl (PRun.q (p_build (cs := strm 3 3 6 (.slice q2 m.length cap2)) rfl pl_51 ti_51 rfl)) ?_
    refine RN.C [1] rfl rfl rfl rfl (c_call rfl rfl) (Cut_tot 3 3 6 A (.slice q2 m.length cap2) m hB) rfl ?_
    rintro _ _ ⟨pw, er, pages, rfl, hpw, rfl, hcut⟩
    obtain ⟨rfl, rfl⟩ : er = 0 ∧ pages = (cutL 3 3 6 m (pagesN m.length)) := by
      rcases hcut with ⟨h1, h2, h3⟩ | ⟨h1, h2, h3, h4⟩ | ⟨h1, h2, h3, h4⟩
      · exact absurd rfl h1.2
      · omega
      · exact ⟨h3, h4⟩
    refine RN.qq rfl rfl rfl rfl (PRun.q (p_move rfl (by conv => lhs; whnf))) ?_
    refine RN.qq rfl rfl rfl rfl (PRun.q (p_extract rfl rfl rfl)) ?_
    refine RN.qq rfl rfl rfl rfl (PRun.q (p_extract rfl rfl rfl)) ?_
    refine RN.qq rfl rfl rfl rfl (PRun.q (p_assign rfl (by conv => lhs; whnf))) ?_
    refine RN.qq rfl rfl rfl rfl (PRun.q (p_assign rfl (by conv => lhs; whnf))) ?_
    refine RN.nil ?_
    refine hK9 _ _ ?_
    refine T.seq fun K10 hK10 => ?_
    refine T.seq fun K11 hK11 => ?_
    refine T.region (l := [0, 1, 2, 3, 4, 5, 6, 7, 8, 9, 10, 11, 12, 13, 14, 15]) rfl ?_
    refine RN.qq rfl rfl rfl rfl (PRun.q (p_move rfl (by conv => lhs; whnf))) ?_
    refine RN.qq rfl rfl rfl rfl (PRun.q (p_neq rfl rfl rfl)) ?_
    refine RN.qq rfl rfl rfl rfl (PRun.q (p_move rfl (by conv => lhs; whnf))) ?_
    refine RN.known 41 rfl (show _ = Value.bool false from rfl) ?_
    refine RN.qq rfl rfl rfl rfl (PRun.q (p_move rfl (by conv => lhs; whnf))) ?_
    refine RN.qq rfl rfl rfl rfl (PRun.q (p_neq rfl rfl rfl)) ?_
    refine RN.qq rfl rfl rfl rfl (PRun.q (p_pick_f rfl rfl (by conv => lhs; whnf))) ?_
    refine RN.qq rfl rfl rfl rfl (PRun.q (p_move rfl (by conv => lhs; whnf))) ?_
    refine RN.known 45 rfl (show _ = Value.bool false from rfl) ?_
    refine RN.qq rfl rfl rfl rfl (PRun.q (p_move rfl (by conv => lhs; whnf))) ?_
    refine RN.qq rfl rfl rfl rfl (q_len_vec rfl Try.underlying45 rfl (i := 2) rfl) ?_
    refine RN.qq rfl rfl rfl rfl (PRun.q (p_eql rfl rfl rfl)) ?_
    refine RN.qq rfl rfl rfl rfl (PRun.q (p_pick_f rfl rfl (by conv => lhs; whnf))) ?_
    refine RN.qq rfl rfl rfl rfl (PRun.q (p_move rfl (by conv => lhs; whnf))) ?_
    refine RN.known 50 rfl (show _ = Value.bool false from congrArg Value.bool (decide_eq_false (by omega))) ?_
    refine RN.qq rfl rfl rfl rfl (PRun.q (p_move rfl (by conv => lhs; whnf))) ?_
    refine RN.qq rfl rfl rfl rfl (q_len_vec rfl Try.underlying45 rfl (i := 0) rfl) ?_
    refine RN.qq rfl rfl rfl rfl (PRun.q (p_eql rfl rfl rfl)) ?_
    refine RN.qq rfl rfl rfl rfl (PRun.q (p_pick_f rfl rfl (by conv => lhs; whnf))) ?_
    refine RN.nil ?_
    refine hK11 _ _ ?_
    refine T.known 54 rfl (show _ = Value.bool false from congrArg Value.bool (decide_eq_false (by omega))) ?_
    refine T.cond_f rfl ?_
    refine T.skip ?_
    refine hK10 _ _ ?_
    refine T.seq fun K12 hK12 => ?_
    refine T.region (l := [0, 1, 2, 3, 4]) rfl ?_
    refine RN.qq rfl rfl rfl rfl (PRun.q (p_move rfl (by conv => lhs; whnf))) ?_
    refine RN.qq rfl rfl rfl rfl (PRun.q (p_move rfl (by conv => lhs; whnf))) ?_
    refine RN.qq rfl rfl rfl rfl (q_len_vec rfl Try.underlying45 rfl (i := 2) rfl) ?_
    refine RN.C [] rfl rfl rfl rfl (c_call rfl rfl) (wrap_spec turn (cutL 3 3 5 l (pagesN l.length)).length ⟨by omega, by omega⟩) rfl ?_
    rintro _ _ ⟨rfl, rfl⟩
    have hkl : (turn % ((cutL 3 3 5 l (pagesN l.length)).length : Int)).toNat < (cutL 3 3 5 l (pagesN l.length)).length := by
      have g1 := Int.emod_nonneg turn (show ((cutL 3 3 5 l (pagesN l.length)).length : Int) ≠ 0 by omega)
      have g2 := Int.emod_lt_of_pos turn (show (0 : Int) < (cutL 3 3 5 l (pagesN l.length)).length by omega)
      omega
    generalize (turn % ((cutL 3 3 5 l (pagesN l.length)).length : Int)).toNat = k at hkl ⊢
    refine RN.qq rfl rfl rfl rfl (PRun.q (p_assign rfl (by conv => lhs; whnf))) ?_
    refine RN.nil ?_
    refine hK12 _ _ ?_
    refine T.seq fun K13 hK13 => ?_
    refine T.openVec 0 rfl (by omega) ?_
    rintro bW capW restW rfl w1 w2 w3
    refine T.openVec 2 rfl (by omega) ?_
    rintro bP capP restP rfl p1 p2 p3
    refine T.regionD (z := 12) (Bs := []) (l := [(1, .pure), (2, .pure), (4, .pure), (5, .pure), (6, .pure), (8, .pure), (9, .pure), (10, .pure), (11, .pure), (0, .eff), (3, .eff), (7, .eff), (12, .eff), (13, .pure)]) mixed (by kernel_rfl) (Ent.nil _) ?_
    refine RD.pp rfl rfl rfl rfl (p_move rfl (by conv => lhs; whnf)) ?_
    refine RD.pp rfl rfl rfl rfl (p_sliceN (l := 1) (h := (cutL 3 3 6 m (pagesN m.length)).length) rfl Try.underlying45 ts_54 rfl rfl rfl ⟨by omega, by omega⟩) ?_
    refine RD.pp rfl rfl rfl rfl (p_move rfl (by conv => lhs; whnf)) ?_
    refine RD.pp rfl rfl rfl rfl (p_move rfl (by conv => lhs; whnf)) ?_
    refine RD.pp rfl rfl rfl rfl (p_sliceN (l := k) (h := (cutL 3 3 5 l (pagesN l.length)).length) rfl Try.underlying45 ts_54 rfl rfl rfl ⟨by omega, by omega⟩) ?_
    refine RD.pp rfl rfl rfl rfl (p_move rfl (by conv => lhs; whnf)) ?_
    refine RD.pp rfl rfl rfl rfl (p_move rfl (by conv => lhs; whnf)) ?_
    refine RD.pp rfl rfl rfl rfl (by first | exact (p_addN (b := 1) rfl rfl rfl (by omega)) | exact (p_add rfl rfl rfl (by omega))) ?_
    refine RD.pp rfl rfl rfl rfl (p_slice_hi (h := k + 1) rfl Try.underlying45 ts_54 rfl rfl (by omega)) ?_
    refine RD.E rfl rfl rfl rfl (e_buildSlice0 rfl Try.underlying45 ti_54 rfl) (by rintro _ _ ⟨_, rfl, rfl⟩; exact .inl (Ent.nil _)) ?_
    rintro _ _ ⟨b59, rfl, rfl⟩
    refine RD.ent (Ent.cons (vec_empty (el := 54) (sz := 39)) (Ent.refl _)) ?_
    refine RD.E rfl rfl rfl rfl (e_append rfl Try.underlying45 ni_45 ti_54 rfl rfl (i := 0) rfl (src_part (i := 1) rfl cutL_pay w1 (by omega)) pgs_all (by omega)) (by rintro _ _ ⟨_, rfl⟩; exact .inl (Ent.nil _)) ?_
    rintro v62 _ ⟨hv62, rfl⟩
    refine RD.E rfl rfl rfl rfl (e_append rfl Try.underlying45 ni_45 ti_54 rfl rfl (i := 0) rfl (src_part (i := 3) rfl cutL_pay p1 (by omega)) pgs_all (by omega)) (by rintro _ _ ⟨_, rfl⟩; exact .inl (Ent.nil _)) ?_
    rintro v66 _ ⟨hv66, rfl⟩
    refine RD.E rfl rfl rfl rfl (e_append rfl Try.underlying45 ni_45 ti_54 rfl rfl (i := 0) rfl (src_take (i := 3) rfl cutL_pay (by omega)) pgs_all (by omega)) (fun _ _ _ => .inr rfl) ?_
    rintro v71 _ ⟨hv71, rfl⟩
    refine RD.pp rfl rfl rfl rfl (p_assign rfl (by conv => lhs; whnf)) ?_
    refine RD.nil ?_
    refine hK13 _ _ ?_
    refine T.seq fun K14 hK14 => ?_
    refine T.region (l := [0, 1, 2, 3, 4, 5, 6, 7]) rfl ?_
    refine RN.qq rfl rfl rfl rfl (PRun.q (p_move rfl (by conv => lhs; whnf))) ?_
    refine RN.qq rfl rfl rfl rfl (PRun.q (p_move rfl (by conv => lhs; whnf))) ?_
    refine RN.qq rfl rfl rfl rfl (PRun.q (by first | exact (p_indexAddrN (i := 0) rfl Try.underlying45 ts_54 rfl rfl (by omega)) | exact (p_indexAddr rfl Try.underlying45 ts_54 rfl rfl (by omega)))) ?_
    refine RN.qq rfl rfl rfl rfl (q_loadA (vs := (cutL 3 3 6 m (pagesN m.length))[0].cells) rfl ag_54 ts_54 rfl (i := 1) rfl (by rw [List.length_append, pgs_length cutL_pay]; omega) (pgs_get' cutL_pay h60)) ?_
    refine RN.E rfl rfl rfl rfl (e_buildSlice1A rfl Try.underlying45 ti_54 rfl rfl (Pg.cells_length (cutL_pay _ (List.getElem_mem h60))) (by decide)) ?_
    rintro _ _ ⟨b76, rfl, rfl⟩
    refine RN.E rfl rfl rfl rfl (e_append rfl Try.underlying45 ni_45 ti_54 rfl rfl (i := 1) rfl (src_full (i := 0) rfl (by rw [Pg.cells_length (cutL_pay _ (List.getElem_mem h60))])) Pg.one (by omega)) ?_
    rintro v77 _ ⟨hv77, rfl⟩
    refine RN.ent (Ent.at (i := 1) (B := vec 54 39 v77 (mixP (cutL 3 3 5 l (pagesN l.length)) (cutL 3 3 6 m (pagesN m.length)) k).length (pgs (mixP (cutL 3 3 5 l (pagesN l.length)) (cutL 3 3 6 m (pagesN m.length)) k))) rfl (vec_same (by rw [mix_length hkl h60]; omega) (by simp [mixP, pgs_append, pgs_one h60]))) ?_
    refine RN.C [1] rfl rfl rfl rfl (c_call rfl rfl) (LJoin_spec (vec 54 39 v77 (mixP (cutL 3 3 5 l (pagesN l.length)) (cutL 3 3 6 m (pagesN m.length)) k).length (pgs (mixP (cutL 3 3 5 l (pagesN l.length)) (cutL 3 3 6 m (pagesN m.length)) k))) v77 (mixP (cutL 3 3 5 l (pagesN l.length)) (cutL 3 3 6 m (pagesN m.length)) k) view_of_vec (fun p hp => by
        rcases mem_mix.1 hp with g | g
        · exact (cut_fit h05 h05a hl6 p g).1
        · exact (cut_fit h05 h06a hm6 p g).1) (by rw [mix_length hkl h60]; omega)) rfl ?_
    rintro v78 _ ⟨ks, rs, hks, hrs, hv78, hone, rfl⟩
    rw [join_mix hl6 hm6 hks] at hrs
    obtain ⟨s, t, rfl, hsk, hsb, htk, htb⟩ := two_of hrs
    refine RN.qq rfl rfl rfl rfl (PRun.q (p_assign rfl (by conv => lhs; whnf))) ?_
    refine RN.nil ?_
    refine hK14 _ _ ?_
    refine T.seq fun K15 hK15 => ?_
    refine T.seq fun K16 hK16 => ?_
    refine T.openVec 0 rfl (by simp) ?_
    rintro bS capS restS rfl s1 s2 s3
    refine T.regionD (z := 30) (Bs := [row bS 51 (([s, t].map Sm.cells).flatten ++ restS), sep ([s, t].map Sm.own), A]) (l := [(0, .pure), (1, .pure), (2, .pure), (3, .pure), (4, .pure), (5, .pure), (6, .pure), (7, .load), (8, .pure), (9, .pure), (10, .pure), (11, .pure), (12, .pure), (13, .pure), (14, .load), (15, .load), (16, .pure), (17, .load), (18, .pure), (19, .pure), (20, .pure), (21, .pure), (22, .pure), (23, .pure), (24, .load), (25, .load), (26, .pure), (27, .load), (28, .pure), (29, .pure)]) mixed (by kernel_rfl) (by first | exact Ent.refl _ | exact Ent.pull_drop (is := [0, 0, 2]) rfl | exact Ent.pull_drop (is := [0, 0, 1]) rfl | exact Ent.pull_drop (is := [0, 0, 3]) rfl) ?_
    refine RD.pp rfl rfl rfl rfl (p_move rfl (by conv => lhs; whnf)) ?_
    refine RD.pp rfl rfl rfl rfl (p_len rfl Try.underlying58 rfl) ?_
    refine RD.pp rfl rfl rfl rfl (p_neq rfl rfl rfl) ?_
    refine RD.pp rfl rfl rfl rfl (p_move rfl (by conv => lhs; whnf)) ?_
    refine RD.known 82 rfl (show _ = Value.bool false from rfl) ?_
    refine RD.pp rfl rfl rfl rfl (p_move rfl (by conv => lhs; whnf)) ?_
    refine RD.pp rfl rfl rfl rfl (by first | exact (p_indexAddrN (i := 0) rfl Try.underlying58 ts_51 rfl rfl (by simp)) | exact (p_indexAddr rfl Try.underlying58 ts_51 rfl rfl (by simp))) ?_
    refine RD.pp rfl rfl rfl rfl (p_fieldAddr rfl fa_51_2 rfl) ?_
    refine RD.qq rfl rfl rfl rfl (q_load (v := u32V s.key.group) rfl sc_48 rfl (i := 0) rfl (by simp [Sm.cells, strm])) (by first | exact Ent.refl _ | exact Ent.pull_drop (is := [0, 0, 2]) rfl | exact Ent.pull_drop (is := [0, 0, 1]) rfl | exact Ent.pull_drop (is := [0, 0, 3]) rfl) ?_
    refine RD.pp rfl rfl rfl rfl (p_neq rfl rfl rfl) ?_
    refine RD.pp rfl rfl rfl rfl (p_pick_f rfl rfl (by conv => lhs; whnf)) ?_
    refine RD.pp rfl rfl rfl rfl (p_move rfl (by conv => lhs; whnf)) ?_
    refine RD.known 89 rfl (show _ = Value.bool false from congrArg Value.bool (decide_eq_false (fun h => h (by rw [hsk]; rfl)))) ?_
    refine RD.pp rfl rfl rfl rfl (p_move rfl (by conv => lhs; whnf)) ?_
    refine RD.pp rfl rfl rfl rfl (by first | exact (p_indexAddrN (i := 0) rfl Try.underlying58 ts_51 rfl rfl (by simp)) | exact (p_indexAddr rfl Try.underlying58 ts_51 rfl rfl (by simp))) ?_
    refine RD.pp rfl rfl rfl rfl (p_fieldAddr rfl fa_51_3 rfl) ?_
    refine RD.qq rfl rfl rfl rfl (q_load (v := s.v) rfl sc_49 rfl (i := 0) rfl (by simp [Sm.cells, strm])) (by first | exact Ent.refl _ | exact Ent.pull_drop (is := [0, 0, 2]) rfl | exact Ent.pull_drop (is := [0, 0, 1]) rfl | exact Ent.pull_drop (is := [0, 0, 3]) rfl) ?_
    refine RD.qq rfl rfl rfl rfl (QRun.ent ((Ent.pull_drop (is := [1]) rfl).trans (Ent.cons ((Ent.head s.own [t.own]).trans view_of_vec) (Ent.refl _))) (q_bytes_view (l := s.bytes) rfl Try.underlying49 Try.underlying5 Try.underlying9 rfl (i := 0) rfl)) (by first | exact Ent.refl _ | exact Ent.pull_drop (is := [0, 0, 2]) rfl | exact Ent.pull_drop (is := [0, 0, 1]) rfl | exact Ent.pull_drop (is := [0, 0, 3]) rfl) ?_
    refine RD.pp rfl rfl rfl rfl (p_move rfl (by conv => lhs; whnf)) ?_
    refine RD.qq rfl rfl rfl rfl (QRun.ent ((Ent.pull_drop (is := [2]) rfl).trans (Ent.cons hA (Ent.refl _))) (q_bytes_view rfl Try.underlying49 Try.underlying5 Try.underlying9 rfl (i := 0) rfl)) (by first | exact Ent.refl _ | exact Ent.pull_drop (is := [0, 0, 2]) rfl | exact Ent.pull_drop (is := [0, 0, 1]) rfl | exact Ent.pull_drop (is := [0, 0, 3]) rfl) ?_
    refine RD.pp rfl rfl rfl rfl (p_sneq rfl rfl rfl) ?_
    refine RD.pp rfl rfl rfl rfl (p_pick_f rfl rfl (by conv => lhs; whnf)) ?_
    refine RD.pp rfl rfl rfl rfl (p_move rfl (by conv => lhs; whnf)) ?_
    refine RD.known 99 rfl (show _ = Value.bool false from congrArg Value.bool (decide_eq_false (fun h => h hsb))) ?_
    refine RD.pp rfl rfl rfl rfl (p_move rfl (by conv => lhs; whnf)) ?_
    refine RD.pp rfl rfl rfl rfl (by first | exact (p_indexAddrN (i := 1) rfl Try.underlying58 ts_51 rfl rfl (by simp)) | exact (p_indexAddr rfl Try.underlying58 ts_51 rfl rfl (by simp))) ?_
    refine RD.pp rfl rfl rfl rfl (p_fieldAddr rfl fa_51_3 rfl) ?_
    refine RD.qq rfl rfl rfl rfl (q_load (v := t.v) rfl sc_49 rfl (i := 0) rfl (by simp [Sm.cells, strm])) (by first | exact Ent.refl _ | exact Ent.pull_drop (is := [0, 0, 2]) rfl | exact Ent.pull_drop (is := [0, 0, 1]) rfl | exact Ent.pull_drop (is := [0, 0, 3]) rfl) ?_
    refine RD.qq rfl rfl rfl rfl (QRun.ent ((Ent.pull_drop (is := [1]) rfl).trans (Ent.cons ((Ent.drop s.own [t.own]).trans ((Ent.head t.own []).trans view_of_vec)) (Ent.refl _))) (q_bytes_view (l := t.bytes) rfl Try.underlying49 Try.underlying5 Try.underlying9 rfl (i := 0) rfl)) (by first | exact Ent.refl _ | exact Ent.pull_drop (is := [0, 0, 2]) rfl | exact Ent.pull_drop (is := [0, 0, 1]) rfl | exact Ent.pull_drop (is := [0, 0, 3]) rfl) ?_
    refine RD.pp rfl rfl rfl rfl (p_move rfl (by conv => lhs; whnf)) ?_
    refine RD.qq rfl rfl rfl rfl (QRun.ent ((Ent.pull_drop (is := [2]) rfl).trans (Ent.cons hB (Ent.refl _))) (q_bytes_view rfl Try.underlying49 Try.underlying5 Try.underlying9 rfl (i := 0) rfl)) (by first | exact Ent.refl _ | exact Ent.pull_drop (is := [0, 0, 2]) rfl | exact Ent.pull_drop (is := [0, 0, 1]) rfl | exact Ent.pull_drop (is := [0, 0, 3]) rfl) ?_
    refine RD.pp rfl rfl rfl rfl (p_sneq rfl rfl rfl) ?_
    refine RD.pp rfl rfl rfl rfl (p_pick_f rfl rfl (by conv => lhs; whnf)) ?_
    refine RD.nil ?_
    refine hK16 _ _ ?_
    refine T.known 108 rfl (show _ = Value.bool false from congrArg Value.bool (decide_eq_false (fun h => h htb))) ?_
    refine T.cond_f rfl ?_
    refine T.skip ?_
    refine hK15 _ _ ?_
    refine T.seq fun K17 hK17 => ?_
    refine T.ent (Ent.pull_drop (is := [4, 4, 4, 4]) rfl) ?_
    refine T.region (l := [0, 1, 2, 3, 4]) rfl ?_
    refine RN.qq rfl rfl rfl rfl (PRun.q (p_move rfl (by conv => lhs; whnf))) ?_
    refine RN.qq rfl rfl rfl rfl (PRun.q (p_move rfl (by conv => lhs; whnf))) ?_
    refine RN.qq rfl rfl rfl rfl (PRun.q (p_len rfl Try.underlying45 rfl)) ?_
    refine RN.C [] rfl rfl rfl rfl (c_call rfl rfl) (wrap_spec less (cutL 3 3 5 l (pagesN l.length)).length ⟨by omega, by omega⟩) rfl ?_
    rintro _ _ ⟨rfl, rfl⟩
    have hdl : (less % ((cutL 3 3 5 l (pagesN l.length)).length : Int)).toNat < (cutL 3 3 5 l (pagesN l.length)).length := by
      have g1 := Int.emod_nonneg less (show ((cutL 3 3 5 l (pagesN l.length)).length : Int) ≠ 0 by omega)
      have g2 := Int.emod_lt_of_pos less (show (0 : Int) < (cutL 3 3 5 l (pagesN l.length)).length by omega)
      omega
    generalize (less % ((cutL 3 3 5 l (pagesN l.length)).length : Int)).toNat = d at hdl ⊢
    refine RN.qq rfl rfl rfl rfl (PRun.q (p_assign rfl (by conv => lhs; whnf))) ?_
    refine RN.nil ?_
    refine hK17 _ _ ?_
    refine T.seq fun K18 hK18 => ?_
    refine T.regionD (z := 12) (Bs := []) (l := [(1, .pure), (2, .pure), (3, .pure), (5, .pure), (6, .pure), (7, .pure), (8, .pure), (10, .pure), (0, .eff), (4, .eff), (9, .eff), (11, .eff), (12, .eff), (13, .pure)]) mixed (by kernel_rfl) (Ent.nil _) ?_
    refine RD.pp rfl rfl rfl rfl (p_move rfl (by conv => lhs; whnf)) ?_
    refine RD.pp rfl rfl rfl rfl (p_move rfl (by conv => lhs; whnf)) ?_
    refine RD.pp rfl rfl rfl rfl (p_slice_hi (h := d) rfl Try.underlying45 ts_54 rfl rfl (by omega)) ?_
    refine RD.pp rfl rfl rfl rfl (p_move rfl (by conv => lhs; whnf)) ?_
    refine RD.pp rfl rfl rfl rfl (p_move rfl (by conv => lhs; whnf)) ?_
    refine RD.pp rfl rfl rfl rfl (by first | exact (p_addN (b := 1) rfl rfl rfl (by omega)) | exact (p_add rfl rfl rfl (by omega))) ?_
    refine RD.pp rfl rfl rfl rfl (p_sliceN (l := d + 1) (h := (cutL 3 3 5 l (pagesN l.length)).length) rfl Try.underlying45 ts_54 rfl rfl rfl ⟨by omega, by omega⟩) ?_
    refine RD.pp rfl rfl rfl rfl (p_move rfl (by conv => lhs; whnf)) ?_
    refine RD.E rfl rfl rfl rfl (e_buildSlice0 rfl Try.underlying45 ti_54 rfl) (by rintro _ _ ⟨_, rfl, rfl⟩; exact .inl (Ent.nil _)) ?_
    rintro _ _ ⟨b113, rfl, rfl⟩
    refine RD.ent (Ent.cons (vec_empty (el := 54) (sz := 39)) (Ent.refl _)) ?_
    refine RD.E rfl rfl rfl rfl (e_append rfl Try.underlying45 ni_45 ti_54 rfl rfl (i := 0) rfl (src_take (i := 3) rfl cutL_pay (by omega)) pgs_all (by omega)) (by rintro _ _ ⟨_, rfl⟩; exact .inl (Ent.nil _)) ?_
    rintro v117 _ ⟨hv117, rfl⟩
    refine RD.E rfl rfl rfl rfl (e_append rfl Try.underlying45 ni_45 ti_54 rfl rfl (i := 0) rfl (src_part (i := 3) rfl cutL_pay p1 (by omega)) pgs_all (by omega)) (by rintro _ _ ⟨_, rfl⟩; exact .inl (Ent.nil _)) ?_
    rintro v122 _ ⟨hv122, rfl⟩
    refine RD.E rfl rfl rfl rfl (e_append rfl Try.underlying45 ni_45 ti_54 rfl rfl (i := 0) rfl (src_take (i := 1) rfl cutL_pay (Nat.le_refl _)) pgs_all (by omega)) (by rintro _ _ ⟨_, rfl⟩; exact .inl (Ent.nil _)) ?_
    rintro v124 _ ⟨hv124, rfl⟩
    refine RD.ent (Ent.at (i := 0) (B := vec 54 39 v124 (lessP (cutL 3 3 5 l (pagesN l.length)) (cutL 3 3 6 m (pagesN m.length)) d).length (pgs (lessP (cutL 3 3 5 l (pagesN l.length)) (cutL 3 3 6 m (pagesN m.length)) d))) rfl (vec_same (by rw [less_length hdl]; omega) (by simp [lessP, pgs_append]))) ?_
    refine RD.C [0] rfl rfl rfl rfl (c_call rfl rfl) (LJoin_spec (vec 54 39 v124 (lessP (cutL 3 3 5 l (pagesN l.length)) (cutL 3 3 6 m (pagesN m.length)) d).length (pgs (lessP (cutL 3 3 5 l (pagesN l.length)) (cutL 3 3 6 m (pagesN m.length)) d))) v124 (lessP (cutL 3 3 5 l (pagesN l.length)) (cutL 3 3 6 m (pagesN m.length)) d) view_of_vec (fun p hp => by
        unfold lessP at hp
        rcases List.mem_append.1 hp with g | g
        · rcases List.mem_append.1 g with g | g
          · exact (cut_fit h05 h05a hl6 p (List.mem_of_mem_take g)).1
          · exact (cut_fit h05 h05a hl6 p (List.mem_of_mem_drop g)).1
        · exact (cut_fit h05 h06a hm6 p g).1) (by rw [less_length hdl]; omega)) rfl (fun _ _ _ => .inr rfl) ?_
    rintro v125 _ ⟨ks2, rs2, hks2, hrs2, hv125, hone2, rfl⟩
    rw [join_lessP hl6 hm6 (by omega) hks2] at hrs2
    obtain ⟨s2, rfl, hsk2, hsb2⟩ := one_of hrs2
    refine RD.pp rfl rfl rfl rfl (p_assign rfl (by conv => lhs; whnf)) ?_
    refine RD.nil ?_
    refine hK18 _ _ ?_
    refine T.seq fun K19 hK19 => ?_
    refine T.region (l := [0, 1, 2, 3, 4, 5, 6, 7, 8, 9, 10]) rfl ?_
    refine RN.qq rfl rfl rfl rfl (PRun.q (p_move rfl (by conv => lhs; whnf))) ?_
    refine RN.qq rfl rfl rfl rfl (q_len_vec rfl Try.underlying58 rfl (i := 0) rfl) ?_
    refine RN.qq rfl rfl rfl rfl (PRun.q (p_eql rfl rfl rfl)) ?_
    refine RN.qq rfl rfl rfl rfl (PRun.q (p_move rfl (by conv => lhs; whnf))) ?_
    refine RN.known 129 rfl (show _ = Value.bool true from rfl) ?_
    refine RN.qq rfl rfl rfl rfl (PRun.q (p_move rfl (by conv => lhs; whnf))) ?_
    refine RN.openVec 0 rfl (by simp) ?_
    rintro bS2 capS2 restS2 rfl z1 z2 z3
    refine RN.qq rfl rfl rfl rfl (PRun.q (by first | exact (p_indexAddrN (i := 0) rfl Try.underlying58 ts_51 rfl rfl (by simp)) | exact (p_indexAddr rfl Try.underlying58 ts_51 rfl rfl (by simp)))) ?_
    refine RN.qq rfl rfl rfl rfl (PRun.q (p_fieldAddr rfl fa_51_2 rfl)) ?_
    refine RN.qq rfl rfl rfl rfl (q_load (v := u32V s2.key.group) rfl sc_48 rfl (i := 0) rfl (by simp [Sm.cells, strm])) ?_
    refine RN.qq rfl rfl rfl rfl (PRun.q (p_eql rfl rfl rfl)) ?_
    refine RN.qq rfl rfl rfl rfl (PRun.q (p_pick_t rfl rfl (by conv => lhs; whnf))) ?_
    refine RN.qq rfl rfl rfl rfl (PRun.q (p_assign rfl (by conv => lhs; whnf))) ?_
    refine RN.nil ?_
    refine hK19 _ _ ?_
    refine T.ret ?_
    refine bodyQ_ret [A] (RetRun.tmp RetRun.nil) ⟨congrArg Value.bool (decide_eq_true (by rw [hsk2]; rfl)), rfl⟩ (Ent.pull_drop (is := [4, 5]) rfl)

end Go.Proofs.Yticfabhcfdmbjaa
