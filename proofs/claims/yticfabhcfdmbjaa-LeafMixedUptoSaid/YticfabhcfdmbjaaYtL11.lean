/-
  LeafMixed walked.
-/
import Derived.Test.YticfabhcfdmbjaaYtMix
import Derived.Test.YticfabhcfdmbjaaYtL6
set_option linter.unusedVariables false
set_option linter.unusedSimpArgs false
namespace Go.Proofs.Yticfabhcfdmbjaa
open Go Go.Sl Go.Proofs
set_option maxRecDepth 20000
open Go.Mo
theorem LeafMixed_walk (haw : Ctr Try.prog 23 [] [] (fun v Ps => v = .bool true ∧ Ps = [])) (turn : Int) (A : Assn) (lv pv : Value) (ls : List Sm) (xs : List Pk) (hL : Ent A (view 4 lv ls.length ((ls.map Sm.cells).flatten))) (hP : Ent A (view 4 pv xs.length ((xs.map Pk.cells).flatten))) (hF : ∀ s ∈ ls, s.fit A) : Ctr Try.prog 10 [lv, pv, .int .i64 turn] [A] (fun v Ps => v = .bool true ∧ Ps = [A]) := by
  refine Ctr.of_body Try.func10 rfl (by kernel_rfl) Try.ntmps10 rfl rfl (fun Fr => ?_)
  refine T.peek (A := view 4 lv ls.length ((ls.map Sm.cells).flatten)) ((Ent.head _ _).trans hL) view_form ?_
  rintro ⟨q, cap, rfl, hcap, hcm, hqf⟩
  refine T.peek (A := view 4 pv xs.length ((xs.map Pk.cells).flatten)) ((Ent.head _ _).trans hP) view_form ?_
  rintro ⟨q2, cap2, rfl, hcap2, hcm2, hqf2⟩
  refine T.seq fun K1 hK1 => ?_
  refine T.region (l := [0]) rfl ?_
  refine RN.qq rfl rfl rfl rfl (PRun.q (p_assign rfl (by conv => lhs; whnf))) ?_
  refine RN.nil ?_
  refine hK1 _ _ ?_
  refine T.seq fun K2 hK2 => ?_
  refine T.seq fun K3 hK3 => ?_
  refine T.region (l := [0, 1]) rfl ?_
  refine RN.C [] rfl rfl rfl rfl (c_call rfl rfl) (haw) rfl ?_
  rintro _ _ ⟨rfl, rfl⟩
  refine RN.qq rfl rfl rfl rfl (PRun.q (by first | exact (p_not_dec rfl rfl) | exact (p_not rfl rfl))) ?_
  refine RN.nil ?_
  refine hK3 _ _ ?_
  refine T.known 18 rfl (show _ = Value.bool false from rfl) ?_
  refine T.cond_f rfl ?_
  refine T.skip ?_
  refine hK2 _ _ ?_
  refine T.cut (G := Unit) (fun ⟨⟩ => ls.length ≤ 6 ∧ xs.length ≤ 40 ∧ 0 < ls.length) (fun ⟨⟩ => [(0, .slice q ls.length cap), (1, .slice q2 xs.length cap2), (2, .int .i64 turn)]) (fun ⟨⟩ => [A, Fr]) ?_ ?_
  ·
    refine T.seq fun K5 hK5 => ?_
    refine T.region (l := [0, 1, 2, 3, 4, 5, 6, 7, 8, 9, 10, 11, 12]) rfl ?_
    refine RN.qq rfl rfl rfl rfl (PRun.q (p_move rfl (by conv => lhs; whnf))) ?_
    refine RN.qq rfl rfl rfl rfl (PRun.q (p_len rfl Try.underlying58 rfl)) ?_
    refine RN.qq rfl rfl rfl rfl (PRun.q (p_gtr rfl rfl rfl)) ?_
    refine RN.qq rfl rfl rfl rfl (PRun.q (p_move rfl (by conv => lhs; whnf))) ?_
    first | refine RN.split_dec 22 rfl (fun h22 => ?_) (fun h22 => ?_) | refine RN.split 22 rfl (fun h22 => ?_) (fun h22 => ?_)
    ·
      refine RN.O rfl rfl rfl rfl ?_
      refine RN.O rfl rfl rfl rfl ?_
      refine RN.O rfl rfl rfl rfl ?_
      refine RN.qq rfl rfl rfl rfl (PRun.q (p_pick_t rfl rfl (by conv => lhs; whnf))) ?_
      refine RN.qq rfl rfl rfl rfl (PRun.q (p_move rfl (by conv => lhs; whnf))) ?_
      refine RN.O rfl rfl rfl rfl ?_
      refine RN.O rfl rfl rfl rfl ?_
      refine RN.O rfl rfl rfl rfl ?_
      refine RN.qq rfl rfl rfl rfl (PRun.q (p_pick_t rfl rfl (by conv => lhs; whnf))) ?_
      refine RN.nil ?_
      refine hK5 _ _ ?_
      refine T.cond_t rfl ?_
      refine T.seq fun K6 hK6 => ?_
      refine T.region (l := [0]) rfl ?_
      refine RN.qq rfl rfl rfl rfl (PRun.q (p_assign rfl (by conv => lhs; whnf))) ?_
      refine RN.nil ?_
      refine hK6 _ _ ?_
      refine T.ret ?_
      refine Post.seq_r ?_
      refine bodyQ_ret [A] (RetRun.tmp RetRun.nil) ⟨rfl, rfl⟩ (Ent.refl _)
    ·
      refine RN.qq rfl rfl rfl rfl (PRun.q (p_move rfl (by conv => lhs; whnf))) ?_
      refine RN.qq rfl rfl rfl rfl (PRun.q (p_len rfl Try.underlying62 rfl)) ?_
      refine RN.qq rfl rfl rfl rfl (PRun.q (p_gtr rfl rfl rfl)) ?_
      refine RN.qq rfl rfl rfl rfl (PRun.q (p_pick_f rfl rfl (by conv => lhs; whnf))) ?_
      refine RN.qq rfl rfl rfl rfl (PRun.q (p_move rfl (by conv => lhs; whnf))) ?_
      first | refine RN.split_dec 27 rfl (fun h27 => ?_) (fun h27 => ?_) | refine RN.split 27 rfl (fun h27 => ?_) (fun h27 => ?_)
      ·
        refine RN.O rfl rfl rfl rfl ?_
        refine RN.O rfl rfl rfl rfl ?_
        refine RN.O rfl rfl rfl rfl ?_
        refine RN.qq rfl rfl rfl rfl (PRun.q (p_pick_t rfl rfl (by conv => lhs; whnf))) ?_
        refine RN.nil ?_
        refine hK5 _ _ ?_
        refine T.cond_t rfl ?_
        refine T.seq fun K7 hK7 => ?_
        refine T.region (l := [0]) rfl ?_
        refine RN.qq rfl rfl rfl rfl (PRun.q (p_assign rfl (by conv => lhs; whnf))) ?_
        refine RN.nil ?_
        refine hK7 _ _ ?_
        refine T.ret ?_
        refine Post.seq_r ?_
        refine bodyQ_ret [A] (RetRun.tmp RetRun.nil) ⟨rfl, rfl⟩ (Ent.refl _)
      ·
        refine RN.qq rfl rfl rfl rfl (PRun.q (p_move rfl (by conv => lhs; whnf))) ?_
        refine RN.qq rfl rfl rfl rfl (PRun.q (p_len rfl Try.underlying58 rfl)) ?_
        refine RN.qq rfl rfl rfl rfl (PRun.q (p_eql rfl rfl rfl)) ?_
        refine RN.qq rfl rfl rfl rfl (PRun.q (p_pick_f rfl rfl (by conv => lhs; whnf))) ?_
        refine RN.nil ?_
        refine hK5 _ _ ?_
        first | refine T.cond_dec rfl (fun h31 => ?_) (fun h31 => ?_) | refine T.cond rfl (fun h31 => ?_) (fun h31 => ?_)
        ·
          refine T.seq fun K8 hK8 => ?_
          refine T.region (l := [0]) rfl ?_
          refine RN.qq rfl rfl rfl rfl (PRun.q (p_assign rfl (by conv => lhs; whnf))) ?_
          refine RN.nil ?_
          refine hK8 _ _ ?_
          refine T.ret ?_
          refine Post.seq_r ?_
          refine bodyQ_ret [A] (RetRun.tmp RetRun.nil) ⟨rfl, rfl⟩ (Ent.refl _)
        ·
          refine T.skip ?_
          refine ⟨(), ⟨by omega, by omega, by omega⟩, (LiveIs.cons rfl (LiveIs.cons rfl (LiveIs.cons rfl LiveIs.nil))), Ent.refl _⟩
  ·
    rintro ⟨⟩ e4 ⟨hl6, hx40, hl0⟩
    refine T.seq fun K9 hK9 => ?_
    refine T.region (l := [0]) rfl ?_
    refine RN.qq rfl rfl rfl rfl (PRun.q (p_assign rfl (by conv => lhs; whnf))) ?_
    refine RN.nil ?_
    refine hK9 _ _ ?_
    refine T.seq fun K10 hK10 => ?_
    refine T.seq fun K11 hK11 => ?_
    refine T.ent (Ent.vec_nil' (el := 54) (sz := 39)) ?_
    refine T.region (l := [0]) rfl ?_
    refine RN.qq rfl rfl rfl rfl (PRun.q (p_assign rfl (by conv => lhs; whnf))) ?_
    refine RN.nil ?_
    refine hK11 _ _ ?_
    refine T.block ?_
    refine T.loop (G := Nat × List Pg × Value) (fun ⟨i, pg, v7⟩ => i ≤ xs.length ∧ pg.length = i ∧ (∀ p ∈ pg, p.fit ∧ U32 p.seq) ∧ v7.oneCell' = true) (fun ⟨i, pg, v7⟩ => [(0, .slice q ls.length cap), (1, .slice q2 xs.length cap2), (2, .int .i64 turn), (7, v7), (8, intV i)]) (fun ⟨i, pg, v7⟩ => [vec 54 39 v7 pg.length (pgs pg), A, Fr]) (fun ⟨i, pg, v7⟩ => xs.length - i) (0, [], .slice none 0 0) ⟨Nat.zero_le _, rfl, (fun p hp => by simp at hp), rfl⟩ (LiveIs.cons rfl (LiveIs.cons rfl (LiveIs.cons rfl (LiveIs.cons rfl (LiveIs.cons rfl LiveIs.nil))))) (Ent.refl _) ?_
    rintro ⟨i, pg, v7⟩ e12 ⟨hix, hpl, hpg, hv7⟩
    dsimp only
    refine T.seq fun K13 hK13 => ?_
    refine T.seq fun K14 hK14 => ?_
    refine T.region (l := [0, 1, 2, 3]) rfl ?_
    refine RN.qq rfl rfl rfl rfl (PRun.q (p_move rfl (by conv => lhs; whnf))) ?_
    refine RN.qq rfl rfl rfl rfl (PRun.q (p_move rfl (by conv => lhs; whnf))) ?_
    refine RN.qq rfl rfl rfl rfl (PRun.q (p_len rfl Try.underlying62 rfl)) ?_
    refine RN.qq rfl rfl rfl rfl (PRun.q (p_lss rfl rfl rfl)) ?_
    refine RN.nil ?_
    refine hK14 _ _ ?_
    first | refine T.cond_dec rfl (fun h35 => ?_) (fun h35 => ?_) | refine T.cond rfl (fun h35 => ?_) (fun h35 => ?_)
    ·
      have hi : i < xs.length := by omega
      obtain ⟨pb, po, rfl⟩ := hqf2 (by omega)
      obtain ⟨lb, lo, rfl⟩ := hqf (by omega)
      refine T.skip ?_
      refine hK13 _ _ ?_
      refine T.seq fun K15 hK15 => ?_
      refine T.block ?_
      refine T.seq fun K16 hK16 => ?_
      refine T.region (l := [0, 1, 2, 3, 4, 5, 6, 7, 8, 9, 10, 11, 12]) rfl ?_
      refine RN.qq rfl rfl rfl rfl (PRun.q (p_move rfl (by conv => lhs; whnf))) ?_
      refine RN.qq rfl rfl rfl rfl (PRun.q (p_move rfl (by conv => lhs; whnf))) ?_
      refine RN.qq rfl rfl rfl rfl (PRun.q (p_move rfl (by conv => lhs; whnf))) ?_
      refine RN.qq rfl rfl rfl rfl (PRun.q (by first | exact (p_indexAddrN rfl Try.underlying62 ts_66 rfl rfl (by omega)) | exact (p_indexAddr rfl Try.underlying62 ts_66 rfl rfl (by omega)))) ?_
      refine RN.qq rfl rfl rfl rfl (PRun.q (p_fieldAddr rfl fa_66_0 rfl)) ?_
      refine RN.qq rfl rfl rfl rfl (QRun.ent ((Ent.pull_drop (is := [1]) rfl).trans (Ent.cons (hP.trans (view_cells (by omega))) (Ent.refl _))) (q_load1C (k := i * 4 + 0) (v := iV xs[i].o) rfl sc_3 rfl (i := 0) rfl (flat_at4 Pk.four hi (by omega)))) ?_
      refine RN.qq rfl rfl rfl rfl (PRun.q (p_move rfl (by conv => lhs; whnf))) ?_
      refine RN.qq rfl rfl rfl rfl (PRun.q (p_len rfl Try.underlying58 rfl)) ?_
      refine RN.C [] rfl rfl rfl rfl (c_call rfl rfl) (wrap_spec xs[i].o ls.length ⟨by omega, by omega⟩) rfl ?_
      rintro _ _ ⟨rfl, rfl⟩
      have hj : (xs[i].o % ((ls.length : Nat) : Int)).toNat < ls.length := by
        have g1 := Int.emod_nonneg (xs[i].o) (show ((ls.length : Nat) : Int) ≠ 0 by omega)
        have g2 := Int.emod_lt_of_pos (xs[i].o) (show (0 : Int) < ((ls.length : Nat) : Int) by omega)
        omega
      generalize (xs[i].o % ((ls.length : Nat) : Int)).toNat = j at hj ⊢
      have hsf := hF _ (List.getElem_mem hj)
      refine RN.qq rfl rfl rfl rfl (PRun.q (by first | exact (p_indexAddrN rfl Try.underlying58 ts_51 rfl rfl (by omega)) | exact (p_indexAddr rfl Try.underlying58 ts_51 rfl rfl (by omega)))) ?_
      refine RN.qq rfl rfl rfl rfl (QRun.ent ((Ent.pull_drop (is := [1]) rfl).trans (Ent.cons (hL.trans (view_cells (by omega))) (Ent.refl _))) (q_loadCA (us := ls[j].cells) (j := j * 4) rfl ag_51 ts_51 rfl (i := 0) rfl (by rw [flat_len4 Sm.four]; omega) (flat_get4 Sm.four hj))) ?_
      refine RN.E rfl rfl rfl rfl (e_alloc rfl ti_51) ?_
      rintro _ _ ⟨b9, rfl, rfl⟩
      refine RN.EN rfl rfl rfl (e_storeA rfl ts_51 rfl rfl rfl (Sm.ones hsf.one) (i := 0) rfl (by simp)) ?_
      rintro _ _ ⟨rfl, rfl⟩
      simp only [setN]
      rw [lay_four rfl rfl]
      refine RN.nil ?_
      refine hK16 _ _ ?_
      refine T.cut (G := Unit) (fun ⟨⟩ => ls[j].bytes.length ≤ 300) (fun ⟨⟩ => [(0, .slice (some ⟨lb, lo, none⟩) ls.length cap), (1, .slice (some ⟨pb, po, none⟩) xs.length cap2), (2, .int .i64 turn), (7, v7), (8, intV i), (9, ptr b9 0)]) (fun ⟨⟩ => [row b9 51 ls[j].cells, vec 54 39 v7 pg.length (pgs pg), A, Fr]) ?_ ?_
      ·
        refine T.seq fun K18 hK18 => ?_
        refine T.region (l := [0, 1, 2, 3, 4, 5, 6, 7, 8, 9, 10, 11, 12, 13]) rfl ?_
        refine RN.qq rfl rfl rfl rfl (PRun.q (p_fieldAddr rfl fa_51_0 rfl)) ?_
        refine RN.qq rfl rfl rfl rfl (q_load rfl sc_3 rfl (i := 0) rfl rfl) ?_
        refine RN.qq rfl rfl rfl rfl (PRun.q (p_neq rfl rfl rfl)) ?_
        refine RN.qq rfl rfl rfl rfl (PRun.q (p_move rfl (by conv => lhs; whnf))) ?_
        first | refine RN.split_dec 52 rfl (fun h52 => ?_) (fun h52 => ?_) | refine RN.split 52 rfl (fun h52 => ?_) (fun h52 => ?_)
        ·
          refine RN.qq rfl rfl rfl rfl (PRun.q (p_fieldAddr rfl fa_51_0 rfl)) ?_
          refine RN.qq rfl rfl rfl rfl (q_load rfl sc_3 rfl (i := 0) rfl rfl) ?_
          refine RN.qq rfl rfl rfl rfl (PRun.q (p_neq rfl rfl rfl)) ?_
          refine RN.qq rfl rfl rfl rfl (PRun.q (p_pick_t rfl rfl (by conv => lhs; whnf))) ?_
          refine RN.qq rfl rfl rfl rfl (PRun.q (p_move rfl (by conv => lhs; whnf))) ?_
          first | refine RN.split_dec 57 rfl (fun h57 => ?_) (fun h57 => ?_) | refine RN.split 57 rfl (fun h57 => ?_) (fun h57 => ?_)
          ·
            refine RN.O rfl rfl rfl rfl ?_
            refine RN.O rfl rfl rfl rfl ?_
            refine RN.O rfl rfl rfl rfl ?_
            refine RN.O rfl rfl rfl rfl ?_
            refine RN.qq rfl rfl rfl rfl (PRun.q (p_pick_t rfl rfl (by conv => lhs; whnf))) ?_
            refine RN.nil ?_
            refine hK18 _ _ ?_
            refine T.cond_t rfl ?_
            refine T.seq fun K19 hK19 => ?_
            refine T.region (l := [0]) rfl ?_
            refine RN.qq rfl rfl rfl rfl (PRun.q (p_assign rfl (by conv => lhs; whnf))) ?_
            refine RN.nil ?_
            refine hK19 _ _ ?_
            refine T.ret ?_
            refine Post.seq_r ?_
            refine Post.block_r ?_
            refine Post.seq_r ?_
            refine Post.seq_r ?_
            refine Post.block_r ?_
            refine Post.seq_r ?_
            refine bodyQ_ret [A] (RetRun.tmp RetRun.nil) ⟨rfl, rfl⟩ (Ent.pull_drop (is := [2, 2]) rfl)
          ·
            refine RN.qq rfl rfl rfl rfl (PRun.q (p_fieldAddr rfl fa_51_3 rfl)) ?_
            refine RN.qq rfl rfl rfl rfl (q_load rfl sc_49 rfl (i := 0) rfl rfl) ?_
            refine RN.qq rfl rfl rfl rfl (QRun.ent ((Ent.pull_drop (is := [2]) rfl).trans (Ent.cons hsf.view (Ent.refl _))) (q_len_view rfl Try.underlying49 rfl (i := 0) rfl)) ?_
            refine RN.qq rfl rfl rfl rfl (PRun.q (p_gtr rfl rfl rfl)) ?_
            refine RN.qq rfl rfl rfl rfl (PRun.q (p_pick_f rfl rfl (by conv => lhs; whnf))) ?_
            refine RN.nil ?_
            refine hK18 _ _ ?_
            first | refine T.cond_dec rfl (fun h62 => ?_) (fun h62 => ?_) | refine T.cond rfl (fun h62 => ?_) (fun h62 => ?_)
            ·
              refine T.seq fun K20 hK20 => ?_
              refine T.region (l := [0]) rfl ?_
              refine RN.qq rfl rfl rfl rfl (PRun.q (p_assign rfl (by conv => lhs; whnf))) ?_
              refine RN.nil ?_
              refine hK20 _ _ ?_
              refine T.ret ?_
              refine Post.seq_r ?_
              refine Post.block_r ?_
              refine Post.seq_r ?_
              refine Post.seq_r ?_
              refine Post.block_r ?_
              refine Post.seq_r ?_
              refine bodyQ_ret [A] (RetRun.tmp RetRun.nil) ⟨rfl, rfl⟩ (Ent.pull_drop (is := [2, 2]) rfl)
            ·
              refine T.skip ?_
              refine ⟨(), (by omega), (LiveIs.cons rfl (LiveIs.cons rfl (LiveIs.cons rfl (LiveIs.cons rfl (LiveIs.cons rfl (LiveIs.cons rfl LiveIs.nil)))))), Ent.refl _⟩
        ·
          refine RN.O rfl rfl rfl rfl ?_
          refine RN.O rfl rfl rfl rfl ?_
          refine RN.O rfl rfl rfl rfl ?_
          refine RN.qq rfl rfl rfl rfl (PRun.q (p_pick_f rfl rfl (by conv => lhs; whnf))) ?_
          refine RN.qq rfl rfl rfl rfl (PRun.q (p_move rfl (by conv => lhs; whnf))) ?_
          refine RN.qq rfl rfl rfl rfl (PRun.q (p_fieldAddr rfl fa_51_3 rfl)) ?_
          refine RN.qq rfl rfl rfl rfl (q_load rfl sc_49 rfl (i := 0) rfl rfl) ?_
          refine RN.qq rfl rfl rfl rfl (QRun.ent ((Ent.pull_drop (is := [2]) rfl).trans (Ent.cons hsf.view (Ent.refl _))) (q_len_view rfl Try.underlying49 rfl (i := 0) rfl)) ?_
          refine RN.qq rfl rfl rfl rfl (PRun.q (p_gtr rfl rfl rfl)) ?_
          refine RN.qq rfl rfl rfl rfl (PRun.q (p_pick_f rfl rfl (by conv => lhs; whnf))) ?_
          refine RN.nil ?_
          refine hK18 _ _ ?_
          first | refine T.cond_dec rfl (fun h62 => ?_) (fun h62 => ?_) | refine T.cond rfl (fun h62 => ?_) (fun h62 => ?_)
          ·
            refine T.seq fun K21 hK21 => ?_
            refine T.region (l := [0]) rfl ?_
            refine RN.qq rfl rfl rfl rfl (PRun.q (p_assign rfl (by conv => lhs; whnf))) ?_
            refine RN.nil ?_
            refine hK21 _ _ ?_
            refine T.ret ?_
            refine Post.seq_r ?_
            refine Post.block_r ?_
            refine Post.seq_r ?_
            refine Post.seq_r ?_
            refine Post.block_r ?_
            refine Post.seq_r ?_
            refine bodyQ_ret [A] (RetRun.tmp RetRun.nil) ⟨rfl, rfl⟩ (Ent.pull_drop (is := [2, 2]) rfl)
          ·
            refine T.skip ?_
            refine ⟨(), (by omega), (LiveIs.cons rfl (LiveIs.cons rfl (LiveIs.cons rfl (LiveIs.cons rfl (LiveIs.cons rfl (LiveIs.cons rfl LiveIs.nil)))))), Ent.refl _⟩
      ·
        rintro ⟨⟩ e17 hb300
        refine T.seq fun K22 hK22 => ?_
        refine T.peek (A := view 1 ls[j].v ls[j].bytes.length (ls[j].bytes.map u8V)) ((Ent.pull_drop (is := [2]) rfl).trans ((Ent.head _ _).trans hsf.view)) view_form ?_
        rintro ⟨q3, cap3, hv3, -⟩
        refine T.region (l := [0, 1, 2, 3, 4, 5, 6, 7, 8, 9, 10]) rfl ?_
        refine RN.qq rfl rfl rfl rfl (PRun.q (p_fieldAddr rfl fa_51_0 rfl)) ?_
        refine RN.qq rfl rfl rfl rfl (q_load rfl sc_3 rfl (i := 0) rfl rfl) ?_
        refine RN.qq rfl rfl rfl rfl (PRun.q (p_fieldAddr rfl fa_51_1 rfl)) ?_
        refine RN.qq rfl rfl rfl rfl (q_load rfl sc_48 rfl (i := 0) rfl rfl) ?_
        refine RN.qq rfl rfl rfl rfl (PRun.q (p_fieldAddr rfl fa_51_2 rfl)) ?_
        refine RN.qq rfl rfl rfl rfl (q_load rfl sc_48 rfl (i := 0) rfl rfl) ?_
        refine RN.qq rfl rfl rfl rfl (PRun.q (p_fieldAddr rfl fa_51_3 rfl)) ?_
        refine RN.qq rfl rfl rfl rfl (q_load rfl sc_49 rfl (i := 0) rfl rfl) ?_
        refine RN.qq rfl rfl rfl rfl (PRun.q (p_build (cs := strm ls[j].key.kind ls[j].key.epoch ls[j].key.group ls[j].v) rfl pl_57 ti_57 (by rw [hv3]; rfl))) ?_
        refine RN.C [2] rfl rfl rfl rfl (c_call rfl rfl) (RCut_spec ls[j].key.kind ls[j].key.epoch ls[j].key.group A ls[j].v ls[j].bytes hsf.view (by omega)) rfl ?_
        rintro v72 _ ⟨hv72, rfl⟩
        have hpn := pagesN_le (n := ls[j].bytes.length) (by omega)
        have eC : (cutL ls[j].key.kind ls[j].key.epoch ls[j].key.group ls[j].bytes (pagesN ls[j].bytes.length)).length = pagesN ls[j].bytes.length := cutL_length ..
        refine RN.qq rfl rfl rfl rfl (PRun.q (p_assign rfl (by conv => lhs; whnf))) ?_
        refine RN.nil ?_
        refine hK22 _ _ ?_
        refine T.openVec 0 rfl (by omega) ?_
        rintro bC capC restC rfl c1 c2 c3
        refine T.regionD (z := 20) (Bs := [row bC 54 (pgs (cutL ls[j].key.kind ls[j].key.epoch ls[j].key.group ls[j].bytes (pagesN ls[j].bytes.length)) ++ restC), A]) (l := [(0, .pure), (1, .pure), (2, .pure), (3, .pure), (4, .pure), (5, .pure), (6, .load), (7, .pure), (8, .pure), (12, .pure), (13, .pure), (14, .pure), (15, .load), (9, .eff), (10, .pure), (11, .load), (16, .eff), (17, .eff), (18, .eff), (19, .pure)]) mixed (by kernel_rfl) (by first | exact Ent.refl _ | exact Ent.pull_drop (is := [0, 0]) rfl | exact Ent.pull_drop (is := [0, 1]) rfl | exact Ent.pull_drop (is := [0, 2]) rfl | exact Ent.pull_drop (is := [0, 3]) rfl | exact Ent.pull_drop (is := [0, 4]) rfl | exact Ent.pull_drop (is := [0, 5]) rfl | exact Ent.pull_drop (is := [0, 6]) rfl | exact Ent.pull_drop (is := [1, 0]) rfl | exact Ent.pull_drop (is := [1, 1]) rfl | exact Ent.pull_drop (is := [1, 2]) rfl | exact Ent.pull_drop (is := [1, 3]) rfl | exact Ent.pull_drop (is := [1, 4]) rfl | exact Ent.pull_drop (is := [1, 5]) rfl | exact Ent.pull_drop (is := [1, 6]) rfl | exact Ent.pull_drop (is := [2, 0]) rfl | exact Ent.pull_drop (is := [2, 1]) rfl | exact Ent.pull_drop (is := [2, 2]) rfl | exact Ent.pull_drop (is := [2, 3]) rfl | exact Ent.pull_drop (is := [2, 4]) rfl | exact Ent.pull_drop (is := [2, 5]) rfl | exact Ent.pull_drop (is := [2, 6]) rfl | exact Ent.pull_drop (is := [3, 0]) rfl | exact Ent.pull_drop (is := [3, 1]) rfl | exact Ent.pull_drop (is := [3, 2]) rfl | exact Ent.pull_drop (is := [3, 3]) rfl | exact Ent.pull_drop (is := [3, 4]) rfl | exact Ent.pull_drop (is := [3, 5]) rfl | exact Ent.pull_drop (is := [3, 6]) rfl | exact Ent.pull_drop (is := [4, 0]) rfl | exact Ent.pull_drop (is := [4, 1]) rfl | exact Ent.pull_drop (is := [4, 2]) rfl | exact Ent.pull_drop (is := [4, 3]) rfl | exact Ent.pull_drop (is := [4, 4]) rfl | exact Ent.pull_drop (is := [4, 5]) rfl | exact Ent.pull_drop (is := [4, 6]) rfl | exact Ent.pull_drop (is := [5, 0]) rfl | exact Ent.pull_drop (is := [5, 1]) rfl | exact Ent.pull_drop (is := [5, 2]) rfl | exact Ent.pull_drop (is := [5, 3]) rfl | exact Ent.pull_drop (is := [5, 4]) rfl | exact Ent.pull_drop (is := [5, 5]) rfl | exact Ent.pull_drop (is := [5, 6]) rfl | exact Ent.pull_drop (is := [6, 0]) rfl | exact Ent.pull_drop (is := [6, 1]) rfl | exact Ent.pull_drop (is := [6, 2]) rfl | exact Ent.pull_drop (is := [6, 3]) rfl | exact Ent.pull_drop (is := [6, 4]) rfl | exact Ent.pull_drop (is := [6, 5]) rfl | exact Ent.pull_drop (is := [6, 6]) rfl | exact Ent.pull_drop (is := [7, 0]) rfl | exact Ent.pull_drop (is := [7, 1]) rfl | exact Ent.pull_drop (is := [7, 2]) rfl | exact Ent.pull_drop (is := [7, 3]) rfl | exact Ent.pull_drop (is := [7, 4]) rfl | exact Ent.pull_drop (is := [7, 5]) rfl | exact Ent.pull_drop (is := [7, 6]) rfl) ?_
        refine RD.pp rfl rfl rfl rfl (p_move rfl (by conv => lhs; whnf)) ?_
        refine RD.pp rfl rfl rfl rfl (p_move rfl (by conv => lhs; whnf)) ?_
        refine RD.pp rfl rfl rfl rfl (p_move rfl (by conv => lhs; whnf)) ?_
        refine RD.pp rfl rfl rfl rfl (p_move rfl (by conv => lhs; whnf)) ?_
        refine RD.pp rfl rfl rfl rfl (by first | exact (p_indexAddrN rfl Try.underlying62 ts_66 rfl rfl (by omega)) | exact (p_indexAddr rfl Try.underlying62 ts_66 rfl rfl (by omega))) ?_
        refine RD.pp rfl rfl rfl rfl (p_fieldAddr rfl fa_66_1 rfl) ?_
        refine RD.qq rfl rfl rfl rfl (QRun.ent ((Ent.pull_drop (is := [1]) rfl).trans (Ent.cons (hP.trans (view_cells (by omega))) (Ent.refl _))) (q_load1C (k := i * 4 + 1) (v := iV xs[i].i) rfl sc_3 rfl (i := 0) rfl (flat_at4 Pk.four hi (by omega)))) (by first | exact Ent.refl _ | exact Ent.pull_drop (is := [0, 0]) rfl | exact Ent.pull_drop (is := [1, 1]) rfl) ?_
        refine RD.pp rfl rfl rfl rfl (p_move rfl (by conv => lhs; whnf)) ?_
        refine RD.pp rfl rfl rfl rfl (p_len rfl Try.underlying45 rfl) ?_
        refine RD.pp rfl rfl rfl rfl (p_move rfl (by conv => lhs; whnf)) ?_
        refine RD.pp rfl rfl rfl rfl (p_move rfl (by conv => lhs; whnf)) ?_
        refine RD.pp rfl rfl rfl rfl (by first | exact (p_indexAddrN rfl Try.underlying62 ts_66 rfl rfl (by omega)) | exact (p_indexAddr rfl Try.underlying62 ts_66 rfl rfl (by omega))) ?_
        refine RD.qq rfl rfl rfl rfl (QRun.ent ((Ent.pull_drop (is := [1]) rfl).trans (Ent.cons (hP.trans (view_cells (by omega))) (Ent.refl _))) (q_loadCA (us := xs[i].cells) (j := i * 4) rfl ag_66 ts_66 rfl (i := 0) rfl (by rw [flat_len4 Pk.four]; omega) (flat_get4 Pk.four hi))) (by first | exact Ent.refl _ | exact Ent.pull_drop (is := [0, 0]) rfl | exact Ent.pull_drop (is := [1, 1]) rfl) ?_
        refine RD.C [] rfl rfl rfl rfl (c_call rfl rfl) (wrap_spec xs[i].i (pagesN ls[j].bytes.length) ⟨by omega, by omega⟩) rfl (by rintro _ _ ⟨rfl, rfl⟩; exact .inl (by first | exact Ent.refl _ | exact Ent.pull_drop (is := [0, 0]) rfl | exact Ent.pull_drop (is := [0, 1]) rfl | exact Ent.pull_drop (is := [0, 2]) rfl | exact Ent.pull_drop (is := [0, 3]) rfl | exact Ent.pull_drop (is := [0, 4]) rfl | exact Ent.pull_drop (is := [0, 5]) rfl | exact Ent.pull_drop (is := [0, 6]) rfl | exact Ent.pull_drop (is := [1, 0]) rfl | exact Ent.pull_drop (is := [1, 1]) rfl | exact Ent.pull_drop (is := [1, 2]) rfl | exact Ent.pull_drop (is := [1, 3]) rfl | exact Ent.pull_drop (is := [1, 4]) rfl | exact Ent.pull_drop (is := [1, 5]) rfl | exact Ent.pull_drop (is := [1, 6]) rfl | exact Ent.pull_drop (is := [2, 0]) rfl | exact Ent.pull_drop (is := [2, 1]) rfl | exact Ent.pull_drop (is := [2, 2]) rfl | exact Ent.pull_drop (is := [2, 3]) rfl | exact Ent.pull_drop (is := [2, 4]) rfl | exact Ent.pull_drop (is := [2, 5]) rfl | exact Ent.pull_drop (is := [2, 6]) rfl | exact Ent.pull_drop (is := [3, 0]) rfl | exact Ent.pull_drop (is := [3, 1]) rfl | exact Ent.pull_drop (is := [3, 2]) rfl | exact Ent.pull_drop (is := [3, 3]) rfl | exact Ent.pull_drop (is := [3, 4]) rfl | exact Ent.pull_drop (is := [3, 5]) rfl | exact Ent.pull_drop (is := [3, 6]) rfl | exact Ent.pull_drop (is := [4, 0]) rfl | exact Ent.pull_drop (is := [4, 1]) rfl | exact Ent.pull_drop (is := [4, 2]) rfl | exact Ent.pull_drop (is := [4, 3]) rfl | exact Ent.pull_drop (is := [4, 4]) rfl | exact Ent.pull_drop (is := [4, 5]) rfl | exact Ent.pull_drop (is := [4, 6]) rfl | exact Ent.pull_drop (is := [5, 0]) rfl | exact Ent.pull_drop (is := [5, 1]) rfl | exact Ent.pull_drop (is := [5, 2]) rfl | exact Ent.pull_drop (is := [5, 3]) rfl | exact Ent.pull_drop (is := [5, 4]) rfl | exact Ent.pull_drop (is := [5, 5]) rfl | exact Ent.pull_drop (is := [5, 6]) rfl | exact Ent.pull_drop (is := [6, 0]) rfl | exact Ent.pull_drop (is := [6, 1]) rfl | exact Ent.pull_drop (is := [6, 2]) rfl | exact Ent.pull_drop (is := [6, 3]) rfl | exact Ent.pull_drop (is := [6, 4]) rfl | exact Ent.pull_drop (is := [6, 5]) rfl | exact Ent.pull_drop (is := [6, 6]) rfl | exact Ent.pull_drop (is := [7, 0]) rfl | exact Ent.pull_drop (is := [7, 1]) rfl | exact Ent.pull_drop (is := [7, 2]) rfl | exact Ent.pull_drop (is := [7, 3]) rfl | exact Ent.pull_drop (is := [7, 4]) rfl | exact Ent.pull_drop (is := [7, 5]) rfl | exact Ent.pull_drop (is := [7, 6]) rfl)) ?_
        rintro _ _ ⟨rfl, rfl⟩
        have hk : (xs[i].i % ((pagesN ls[j].bytes.length : Nat) : Int)).toNat < pagesN ls[j].bytes.length := by
          have g1 := Int.emod_nonneg (xs[i].i) (show ((pagesN ls[j].bytes.length : Nat) : Int) ≠ 0 by omega)
          have g2 := Int.emod_lt_of_pos (xs[i].i) (show (0 : Int) < ((pagesN ls[j].bytes.length : Nat) : Int) by omega)
          omega
        generalize (xs[i].i % ((pagesN ls[j].bytes.length : Nat) : Int)).toNat = k at hk ⊢
        have hkC : k < (cutL ls[j].key.kind ls[j].key.epoch ls[j].key.group ls[j].bytes (pagesN ls[j].bytes.length)).length := by rw [eC]; exact hk
        have hkf := cut_fit (kind := ls[j].key.kind) hsf.epoch hsf.group (show ls[j].bytes.length ≤ 65536 by omega) _ (List.getElem_mem hkC)
        refine RD.pp rfl rfl rfl rfl (by first | exact (p_indexAddrN rfl Try.underlying45 ts_54 rfl rfl (by omega)) | exact (p_indexAddr rfl Try.underlying45 ts_54 rfl rfl (by omega))) ?_
        refine RD.qq rfl rfl rfl rfl (q_loadA (vs := (cutL ls[j].key.kind ls[j].key.epoch ls[j].key.group ls[j].bytes (pagesN ls[j].bytes.length))[k].cells) rfl ag_54 ts_54 rfl (i := 0) rfl (by rw [List.length_append, pgs_length cutL_pay]; omega) (pgs_get' cutL_pay hkC)) (by first | exact Ent.refl _ | exact Ent.pull_drop (is := [0, 0]) rfl | exact Ent.pull_drop (is := [1, 1]) rfl) ?_
        refine RD.C [] rfl rfl rfl rfl (c_call rfl rfl) (Changed_spec (cutL ls[j].key.kind ls[j].key.epoch ls[j].key.group ls[j].bytes (pagesN ls[j].bytes.length))[k] hkf.1 hkf.2.1 xs[i].o xs[i].i xs[i].f xs[i].v) rfl (by rintro _ _ ⟨_, rfl, _, _, rfl⟩; exact .inl (by first | exact Ent.refl _ | exact Ent.pull_drop (is := [0, 0]) rfl | exact Ent.pull_drop (is := [0, 1]) rfl | exact Ent.pull_drop (is := [0, 2]) rfl | exact Ent.pull_drop (is := [0, 3]) rfl | exact Ent.pull_drop (is := [0, 4]) rfl | exact Ent.pull_drop (is := [0, 5]) rfl | exact Ent.pull_drop (is := [0, 6]) rfl | exact Ent.pull_drop (is := [1, 0]) rfl | exact Ent.pull_drop (is := [1, 1]) rfl | exact Ent.pull_drop (is := [1, 2]) rfl | exact Ent.pull_drop (is := [1, 3]) rfl | exact Ent.pull_drop (is := [1, 4]) rfl | exact Ent.pull_drop (is := [1, 5]) rfl | exact Ent.pull_drop (is := [1, 6]) rfl | exact Ent.pull_drop (is := [2, 0]) rfl | exact Ent.pull_drop (is := [2, 1]) rfl | exact Ent.pull_drop (is := [2, 2]) rfl | exact Ent.pull_drop (is := [2, 3]) rfl | exact Ent.pull_drop (is := [2, 4]) rfl | exact Ent.pull_drop (is := [2, 5]) rfl | exact Ent.pull_drop (is := [2, 6]) rfl | exact Ent.pull_drop (is := [3, 0]) rfl | exact Ent.pull_drop (is := [3, 1]) rfl | exact Ent.pull_drop (is := [3, 2]) rfl | exact Ent.pull_drop (is := [3, 3]) rfl | exact Ent.pull_drop (is := [3, 4]) rfl | exact Ent.pull_drop (is := [3, 5]) rfl | exact Ent.pull_drop (is := [3, 6]) rfl | exact Ent.pull_drop (is := [4, 0]) rfl | exact Ent.pull_drop (is := [4, 1]) rfl | exact Ent.pull_drop (is := [4, 2]) rfl | exact Ent.pull_drop (is := [4, 3]) rfl | exact Ent.pull_drop (is := [4, 4]) rfl | exact Ent.pull_drop (is := [4, 5]) rfl | exact Ent.pull_drop (is := [4, 6]) rfl | exact Ent.pull_drop (is := [5, 0]) rfl | exact Ent.pull_drop (is := [5, 1]) rfl | exact Ent.pull_drop (is := [5, 2]) rfl | exact Ent.pull_drop (is := [5, 3]) rfl | exact Ent.pull_drop (is := [5, 4]) rfl | exact Ent.pull_drop (is := [5, 5]) rfl | exact Ent.pull_drop (is := [5, 6]) rfl | exact Ent.pull_drop (is := [6, 0]) rfl | exact Ent.pull_drop (is := [6, 1]) rfl | exact Ent.pull_drop (is := [6, 2]) rfl | exact Ent.pull_drop (is := [6, 3]) rfl | exact Ent.pull_drop (is := [6, 4]) rfl | exact Ent.pull_drop (is := [6, 5]) rfl | exact Ent.pull_drop (is := [6, 6]) rfl | exact Ent.pull_drop (is := [7, 0]) rfl | exact Ent.pull_drop (is := [7, 1]) rfl | exact Ent.pull_drop (is := [7, 2]) rfl | exact Ent.pull_drop (is := [7, 3]) rfl | exact Ent.pull_drop (is := [7, 4]) rfl | exact Ent.pull_drop (is := [7, 5]) rfl | exact Ent.pull_drop (is := [7, 6]) rfl)) ?_
        rintro _ _ ⟨p2, rfl, hp2, hs2, rfl⟩
        refine RD.E rfl rfl rfl rfl (e_buildSlice1A rfl Try.underlying45 ti_54 rfl rfl (Pg.cells_length hp2.ok.pay) (by decide)) (by rintro _ _ ⟨_, rfl, rfl⟩; exact .inl (Ent.pull_drop (is := [1, 1]) rfl)) ?_
        rintro _ _ ⟨b90, rfl, rfl⟩
        refine RD.E rfl rfl rfl rfl (e_append rfl Try.underlying45 ni_45 ti_54 rfl rfl (i := 4) rfl (src_full (i := 0) rfl (Pg.cells_length hp2.ok.pay)) Pg.one (by omega)) (by rintro _ _ ⟨_, rfl⟩; exact .inl (by first | exact Ent.refl _ | exact Ent.pull_drop (is := [0, 0]) rfl | exact Ent.pull_drop (is := [0, 1]) rfl | exact Ent.pull_drop (is := [0, 2]) rfl | exact Ent.pull_drop (is := [0, 3]) rfl | exact Ent.pull_drop (is := [0, 4]) rfl | exact Ent.pull_drop (is := [0, 5]) rfl | exact Ent.pull_drop (is := [0, 6]) rfl | exact Ent.pull_drop (is := [1, 0]) rfl | exact Ent.pull_drop (is := [1, 1]) rfl | exact Ent.pull_drop (is := [1, 2]) rfl | exact Ent.pull_drop (is := [1, 3]) rfl | exact Ent.pull_drop (is := [1, 4]) rfl | exact Ent.pull_drop (is := [1, 5]) rfl | exact Ent.pull_drop (is := [1, 6]) rfl | exact Ent.pull_drop (is := [2, 0]) rfl | exact Ent.pull_drop (is := [2, 1]) rfl | exact Ent.pull_drop (is := [2, 2]) rfl | exact Ent.pull_drop (is := [2, 3]) rfl | exact Ent.pull_drop (is := [2, 4]) rfl | exact Ent.pull_drop (is := [2, 5]) rfl | exact Ent.pull_drop (is := [2, 6]) rfl | exact Ent.pull_drop (is := [3, 0]) rfl | exact Ent.pull_drop (is := [3, 1]) rfl | exact Ent.pull_drop (is := [3, 2]) rfl | exact Ent.pull_drop (is := [3, 3]) rfl | exact Ent.pull_drop (is := [3, 4]) rfl | exact Ent.pull_drop (is := [3, 5]) rfl | exact Ent.pull_drop (is := [3, 6]) rfl | exact Ent.pull_drop (is := [4, 0]) rfl | exact Ent.pull_drop (is := [4, 1]) rfl | exact Ent.pull_drop (is := [4, 2]) rfl | exact Ent.pull_drop (is := [4, 3]) rfl | exact Ent.pull_drop (is := [4, 4]) rfl | exact Ent.pull_drop (is := [4, 5]) rfl | exact Ent.pull_drop (is := [4, 6]) rfl | exact Ent.pull_drop (is := [5, 0]) rfl | exact Ent.pull_drop (is := [5, 1]) rfl | exact Ent.pull_drop (is := [5, 2]) rfl | exact Ent.pull_drop (is := [5, 3]) rfl | exact Ent.pull_drop (is := [5, 4]) rfl | exact Ent.pull_drop (is := [5, 5]) rfl | exact Ent.pull_drop (is := [5, 6]) rfl | exact Ent.pull_drop (is := [6, 0]) rfl | exact Ent.pull_drop (is := [6, 1]) rfl | exact Ent.pull_drop (is := [6, 2]) rfl | exact Ent.pull_drop (is := [6, 3]) rfl | exact Ent.pull_drop (is := [6, 4]) rfl | exact Ent.pull_drop (is := [6, 5]) rfl | exact Ent.pull_drop (is := [6, 6]) rfl | exact Ent.pull_drop (is := [7, 0]) rfl | exact Ent.pull_drop (is := [7, 1]) rfl | exact Ent.pull_drop (is := [7, 2]) rfl | exact Ent.pull_drop (is := [7, 3]) rfl | exact Ent.pull_drop (is := [7, 4]) rfl | exact Ent.pull_drop (is := [7, 5]) rfl | exact Ent.pull_drop (is := [7, 6]) rfl)) ?_
        rintro v91 _ ⟨hv91, rfl⟩
        refine RD.pp rfl rfl rfl rfl (p_assign rfl (by conv => lhs; whnf)) ?_
        refine RD.nil ?_
        refine hK15 _ _ ?_
        refine T.region (l := [0, 1, 2]) rfl ?_
        refine RN.qq rfl rfl rfl rfl (PRun.q (p_move rfl (by conv => lhs; whnf))) ?_
        refine RN.qq rfl rfl rfl rfl (PRun.q (by first | exact (p_addN (b := 1) rfl rfl rfl (by omega)) | exact (p_add rfl rfl rfl (by omega)))) ?_
        refine RN.qq rfl rfl rfl rfl (PRun.q (p_assign rfl (by conv => lhs; whnf))) ?_
        refine RN.nil ?_
        refine ⟨(i + 1, pg ++ [p2], v91), ⟨by omega, (by rw [List.length_append, hpl]; rfl), (fun p hp => by
              rcases List.mem_append.1 hp with h | h
              · exact hpg p h
              · rw [List.mem_singleton.1 h]; exact ⟨hp2, hs2⟩), hv91⟩, (by show _ - (i + 1) < _ - i; omega), (LiveIs.cons rfl (LiveIs.cons rfl (LiveIs.cons rfl (LiveIs.cons rfl (LiveIs.cons rfl LiveIs.nil))))), ?_⟩
        refine (Ent.pull_drop (is := [4, 2, 3]) rfl).trans (Ent.cons (vec_same (by simp) (by rw [pgs_push])) (Ent.refl _))
    ·
      have hi : i = xs.length := by omega
      refine T.exit ?_
      refine Post.seq_x ?_
      refine Post.seq_x ?_
      refine Post.block_hit ?_
      refine hK10 _ _ ?_
      refine T.seq fun K23 hK23 => ?_
      refine T.region (l := [0, 1, 2]) rfl ?_
      refine RN.qq rfl rfl rfl rfl (PRun.q (p_move rfl (by conv => lhs; whnf))) ?_
      refine RN.C [0] rfl rfl rfl rfl (c_call rfl rfl) (LJoin_spec (vec 54 39 v7 pg.length (pgs pg)) v7 pg view_of_vec (fun p hp => (hpg p hp).1) (by omega)) rfl ?_
      rintro v93 _ ⟨ka, ra, hka, hra, hv93, hone, rfl⟩
      refine RN.qq rfl rfl rfl rfl (PRun.q (p_assign rfl (by conv => lhs; whnf))) ?_
      refine RN.nil ?_
      refine hK23 _ _ ?_
      refine T.seq fun K24 hK24 => ?_
      refine T.region (l := [0, 1, 2, 3, 4, 5, 6]) rfl ?_
      refine RN.E rfl rfl rfl rfl (e_buildSlice0 rfl Try.underlying45 ti_54 rfl) ?_
      rintro _ _ ⟨b94, rfl, rfl⟩
      refine RN.qq rfl rfl rfl rfl (PRun.q (p_move rfl (by conv => lhs; whnf))) ?_
      refine RN.ent (Ent.cons (vec_empty (el := 54) (sz := 39)) (Ent.refl _)) ?_
      refine RN.E rfl rfl rfl rfl (e_append rfl Try.underlying45 ni_45 ti_54 rfl rfl (i := 0) rfl (src_vec (i := 3) rfl (pgs_length (fun p hp => (hpg p hp).1.ok.pay))) pgs_all (by omega)) ?_
      rintro v96 _ ⟨hv96, rfl⟩
      refine RN.qq rfl rfl rfl rfl (PRun.q (p_move rfl (by conv => lhs; whnf))) ?_
      refine RN.E rfl rfl rfl rfl (e_append rfl Try.underlying45 ni_45 ti_54 rfl rfl (i := 0) rfl (src_vec (i := 3) rfl (pgs_length (fun p hp => (hpg p hp).1.ok.pay))) pgs_all (by omega)) ?_
      rintro v98 _ ⟨hv98, rfl⟩
      refine RN.ent (Ent.at (i := 0) (B := vec 54 39 v98 (pg ++ pg).length (pgs (pg ++ pg))) rfl (vec_same (by rw [List.length_append]; omega) (by simp [pgs_append]))) ?_
      refine RN.C [0] rfl rfl rfl rfl (c_call rfl rfl) (LJoin_spec (vec 54 39 v98 (pg ++ pg).length (pgs (pg ++ pg))) v98 (pg ++ pg) view_of_vec (fun p hp => (hpg p ((mem_twice p).2 hp)).1) (by rw [List.length_append]; omega)) rfl ?_
      rintro v99 _ ⟨kb, rb, hkb, hrb, hv99, honeb, rfl⟩
      refine RN.qq rfl rfl rfl rfl (PRun.q (p_assign rfl (by conv => lhs; whnf))) ?_
      refine RN.nil ?_
      refine hK24 _ _ ?_
      refine T.seq fun K25 hK25 => ?_
      refine T.region (l := [0]) rfl ?_
      refine RN.qq rfl rfl rfl rfl (PRun.q (p_assign rfl (by conv => lhs; whnf))) ?_
      refine RN.nil ?_
      refine hK25 _ _ ?_
      refine T.cut (G := Nat) (fun k => k ≤ pg.length) (fun k => [(7, v7), (11, v93), (12, v99), (13, intV k)]) (fun k => [vec 51 4 v93 ra.length ((ra.map Sm.cells).flatten), sep (ra.map Sm.own), vec 51 4 v99 rb.length ((rb.map Sm.cells).flatten), sep (rb.map Sm.own), vec 54 39 v7 pg.length (pgs pg), A, Fr]) ?_ ?_
      ·
        refine T.seq fun K27 hK27 => ?_
        refine T.region (l := [0, 1, 2]) rfl ?_
        refine RN.qq rfl rfl rfl rfl (PRun.q (p_move rfl (by conv => lhs; whnf))) ?_
        refine RN.qq rfl rfl rfl rfl (q_len_vec rfl Try.underlying45 rfl (i := 5) rfl) ?_
        refine RN.qq rfl rfl rfl rfl (PRun.q (p_gtr rfl rfl rfl)) ?_
        refine RN.nil ?_
        refine hK27 _ _ ?_
        first | refine T.cond_dec rfl (fun h102 => ?_) (fun h102 => ?_) | refine T.cond rfl (fun h102 => ?_) (fun h102 => ?_)
        ·
          refine T.region (l := [0, 1, 2, 3, 4]) rfl ?_
          refine RN.qq rfl rfl rfl rfl (PRun.q (p_move rfl (by conv => lhs; whnf))) ?_
          refine RN.qq rfl rfl rfl rfl (PRun.q (p_move rfl (by conv => lhs; whnf))) ?_
          refine RN.qq rfl rfl rfl rfl (q_len_vec rfl Try.underlying45 rfl (i := 5) rfl) ?_
          refine RN.C [] rfl rfl rfl rfl (c_call rfl rfl) (wrap_spec turn pg.length ⟨by omega, by omega⟩) rfl ?_
          rintro _ _ ⟨rfl, rfl⟩
          have hk : (turn % ((pg.length : Nat) : Int)).toNat < pg.length := by
            have g1 := Int.emod_nonneg (turn) (show ((pg.length : Nat) : Int) ≠ 0 by omega)
            have g2 := Int.emod_lt_of_pos (turn) (show (0 : Int) < ((pg.length : Nat) : Int) by omega)
            omega
          generalize (turn % ((pg.length : Nat) : Int)).toNat = k at hk ⊢
          refine RN.qq rfl rfl rfl rfl (PRun.q (p_assign rfl (by conv => lhs; whnf))) ?_
          refine RN.nil ?_
          refine ⟨k, (by omega), (LiveIs.cons rfl (LiveIs.cons rfl (LiveIs.cons rfl (LiveIs.cons rfl LiveIs.nil)))), (Ent.pull_drop (is := [3, 3, 0, 0, 1, 1, 1]) rfl)⟩
        ·
          refine T.skip ?_
          refine ⟨0, (by omega), (LiveIs.cons rfl (LiveIs.cons rfl (LiveIs.cons rfl (LiveIs.cons rfl LiveIs.nil)))), (Ent.pull_drop (is := [3, 3, 0, 0, 1, 1, 1]) rfl)⟩
      ·
        rintro k e26 hkp
        refine T.seq fun K28 hK28 => ?_
        refine T.peek (A := view 39 v7 pg.length (pgs pg)) ((Ent.pull_drop (is := [4]) rfl).trans ((Ent.head _ _).trans view_of_vec)) view_form ?_
        rintro ⟨q7, cap7, rfl, h7c, h7m, -⟩
        refine T.regionD (z := 9) (Bs := []) (l := [(1, .pure), (2, .pure), (3, .pure), (5, .pure), (6, .pure), (7, .pure), (0, .eff), (4, .eff), (8, .eff), (9, .eff), (10, .pure)]) mixed (by kernel_rfl) (Ent.nil _) ?_
        refine RD.pp rfl rfl rfl rfl (p_move rfl (by conv => lhs; whnf)) ?_
        refine RD.pp rfl rfl rfl rfl (p_move rfl (by conv => lhs; whnf)) ?_
        refine RD.pp rfl rfl rfl rfl (run_sliceAny (l := k) (h := pg.length) rfl Try.underlying45 ts_54 rfl rfl rfl ⟨by omega, h7c⟩) ?_
        refine RD.pp rfl rfl rfl rfl (p_move rfl (by conv => lhs; whnf)) ?_
        refine RD.pp rfl rfl rfl rfl (p_move rfl (by conv => lhs; whnf)) ?_
        refine RD.pp rfl rfl rfl rfl (run_sliceAny (l := 0) (h := k) rfl Try.underlying45 ts_54 rfl rfl rfl ⟨by omega, by omega⟩) ?_
        refine RD.E rfl rfl rfl rfl (e_buildSlice0 rfl Try.underlying45 ti_54 rfl) (by rintro _ _ ⟨_, rfl, rfl⟩; exact .inl (Ent.nil _)) ?_
        rintro _ _ ⟨b107, rfl, rfl⟩
        refine RD.ent (Ent.cons (vec_empty (el := 54) (sz := 39)) (Ent.refl _)) ?_
        refine RD.E rfl rfl rfl rfl (e_append (m := pg.length - k) rfl Try.underlying45 ni_45 ti_54 rfl rfl (i := 0) rfl (src_sub (v := .slice q7 pg.length cap7) (L := pg) (l := k) (h := pg.length) (i := 5) rfl (fun p hp => (hpg p hp).1.ok.pay) (by omega) (by omega)) pgs_all (by omega)) (by rintro _ _ ⟨_, rfl⟩; exact .inl (Ent.nil _)) ?_
        rintro v111 _ ⟨hv111, rfl⟩
        refine RD.E rfl rfl rfl rfl (e_append (m := k - 0) rfl Try.underlying45 ni_45 ti_54 rfl rfl (i := 0) rfl (src_sub (v := .slice q7 pg.length cap7) (L := pg) (l := 0) (h := k) (i := 5) rfl (fun p hp => (hpg p hp).1.ok.pay) (by omega) (by omega)) pgs_all (by omega)) (by rintro _ _ ⟨_, rfl⟩; exact .inl (Ent.nil _)) ?_
        rintro v115 _ ⟨hv115, rfl⟩
        refine RD.ent (Ent.at (i := 0) (B := vec 54 39 v115 (pg.drop k ++ pg.take k).length (pgs (pg.drop k ++ pg.take k))) rfl (vec_same (by rw [List.length_append, List.length_drop, List.length_take]; omega) turn_eq)) ?_
        refine RD.C [0] rfl rfl rfl rfl (c_call rfl rfl) (LJoin_spec (vec 54 39 v115 (pg.drop k ++ pg.take k).length (pgs (pg.drop k ++ pg.take k))) v115 (pg.drop k ++ pg.take k) view_of_vec (fun p hp => (hpg p ((mem_turn k p).2 hp)).1) (by rw [List.length_append, List.length_drop, List.length_take]; omega)) rfl (fun _ _ _ => .inr rfl) ?_
        rintro v116 _ ⟨kc, rc, hkc, hrc, hv116, honec, rfl⟩
        refine RD.pp rfl rfl rfl rfl (p_assign rfl (by conv => lhs; whnf)) ?_
        refine RD.nil ?_
        refine hK28 _ _ ?_
        refine T.seq fun K29 hK29 => ?_
        refine T.seq fun K30 hK30 => ?_
        have hpi : ∀ p ∈ pg, 0 ≤ p.index := fun p hp => (hpg p hp).1.ok.index.1
        have hab : ra.map (fun s => (s.key, s.bytes)) = rb.map (fun s => (s.key, s.bytes)) := by rw [hra, hrb]; exact joinKs_same hpi mem_twice hka hkb
        have hac : ra.map (fun s => (s.key, s.bytes)) = rc.map (fun s => (s.key, s.bytes)) := by rw [hra, hrc]; exact joinKs_same hpi (mem_turn k) hka hkc
        have lab := same_len hab
        have lac := same_len hac
        refine T.region (l := [0, 1, 2, 3, 4, 5, 6, 7, 8, 9, 10, 11]) rfl ?_
        refine RN.qq rfl rfl rfl rfl (PRun.q (p_move rfl (by conv => lhs; whnf))) ?_
        refine RN.qq rfl rfl rfl rfl (q_len_vec rfl Try.underlying58 rfl (i := 3) rfl) ?_
        refine RN.qq rfl rfl rfl rfl (PRun.q (p_move rfl (by conv => lhs; whnf))) ?_
        refine RN.qq rfl rfl rfl rfl (q_len_vec rfl Try.underlying58 rfl (i := 5) rfl) ?_
        refine RN.qq rfl rfl rfl rfl (PRun.q (p_neq rfl rfl rfl)) ?_
        refine RN.qq rfl rfl rfl rfl (PRun.q (p_move rfl (by conv => lhs; whnf))) ?_
        refine RN.known 122 rfl (show _ = Value.bool false from congrArg Value.bool (decide_eq_false (fun h => h (by omega)))) ?_
        refine RN.qq rfl rfl rfl rfl (PRun.q (p_move rfl (by conv => lhs; whnf))) ?_
        refine RN.qq rfl rfl rfl rfl (q_len_vec rfl Try.underlying58 rfl (i := 3) rfl) ?_
        refine RN.qq rfl rfl rfl rfl (PRun.q (p_move rfl (by conv => lhs; whnf))) ?_
        refine RN.qq rfl rfl rfl rfl (q_len_vec rfl Try.underlying58 rfl (i := 0) rfl) ?_
        refine RN.qq rfl rfl rfl rfl (PRun.q (p_neq rfl rfl rfl)) ?_
        refine RN.qq rfl rfl rfl rfl (PRun.q (p_pick_f rfl rfl (by conv => lhs; whnf))) ?_
        refine RN.nil ?_
        refine hK30 _ _ ?_
        refine T.known 128 rfl (show _ = Value.bool false from congrArg Value.bool (decide_eq_false (fun h => h (by omega)))) ?_
        refine T.cond_f rfl ?_
        refine T.skip ?_
        refine hK29 _ _ ?_
        refine T.seq fun K31 hK31 => ?_
        refine T.seq fun K32 hK32 => ?_
        refine T.region (l := [0]) rfl ?_
        refine RN.qq rfl rfl rfl rfl (PRun.q (p_assign rfl (by conv => lhs; whnf))) ?_
        refine RN.nil ?_
        refine hK32 _ _ ?_
        refine T.block ?_
        refine T.loop (G := Nat) (fun m => m ≤ ra.length) (fun m => [(11, v93), (12, v99), (14, v116), (15, intV m)]) (fun m => [vec 51 4 v93 ra.length ((ra.map Sm.cells).flatten), sep (ra.map Sm.own), vec 51 4 v99 rb.length ((rb.map Sm.cells).flatten), sep (rb.map Sm.own), vec 51 4 v116 rc.length ((rc.map Sm.cells).flatten), sep (rc.map Sm.own), A, Fr]) (fun m => ra.length - m) 0 (Nat.zero_le _) (LiveIs.cons rfl (LiveIs.cons rfl (LiveIs.cons rfl (LiveIs.cons rfl LiveIs.nil)))) (Ent.pull_drop (is := [3, 3, 3, 3, 0, 0, 2, 2]) rfl) ?_
        rintro m e33 hmr
        refine T.seq fun K34 hK34 => ?_
        refine T.seq fun K35 hK35 => ?_
        refine T.region (l := [0, 1, 2, 3]) rfl ?_
        refine RN.qq rfl rfl rfl rfl (PRun.q (p_move rfl (by conv => lhs; whnf))) ?_
        refine RN.qq rfl rfl rfl rfl (PRun.q (p_move rfl (by conv => lhs; whnf))) ?_
        refine RN.qq rfl rfl rfl rfl (q_len_vec rfl Try.underlying58 rfl (i := 0) rfl) ?_
        refine RN.qq rfl rfl rfl rfl (PRun.q (p_lss rfl rfl rfl)) ?_
        refine RN.nil ?_
        refine hK35 _ _ ?_
        first | refine T.cond_dec rfl (fun h132 => ?_) (fun h132 => ?_) | refine T.cond rfl (fun h132 => ?_) (fun h132 => ?_)
        ·
          have hm : m < ra.length := by omega
          have hmb : m < rb.length := by omega
          have hmc : m < rc.length := by omega
          obtain ⟨ekb, ebb⟩ := same_at hab hm hmb
          obtain ⟨ekc, ebc⟩ := same_at hac hm hmc
          refine T.openVec 0 rfl (by omega) ?_
          rintro bA capA restA rfl a1 a2 a3
          refine T.openVec 2 rfl (by omega) ?_
          rintro bB capB restB rfl b1 b2 b3
          refine T.openVec 4 rfl (by omega) ?_
          rintro bD capD restD rfl d1 d2 d3
          refine T.ent ((Ent.pull_drop (is := [1, 2, 3, 0, 0, 0, 0, 0]) rfl).trans (Ent.unflat [sep (ra.map Sm.own), sep (rb.map Sm.own), sep (rc.map Sm.own)] [row bA 51 (((ra.map Sm.cells).flatten) ++ restA), row bB 51 (((rb.map Sm.cells).flatten) ++ restB), row bD 51 (((rc.map Sm.cells).flatten) ++ restD), A, Fr])) ?_
          refine T.peek (A := view 1 ra[m].v ra[m].bytes.length (ra[m].bytes.map u8V)) ((Ent.head _ _).trans ((Ent.head _ _).trans (own_view hm))) view_form ?_
          rintro ⟨q4, cap4, hv4, -⟩
          refine T.skip ?_
          refine hK34 _ _ ?_
          refine T.seq fun K36 hK36 => ?_
          refine T.block ?_
          refine T.seq fun K37 hK37 => ?_
          refine T.regionD (z := 22) (Bs := [row bA 51 (((ra.map Sm.cells).flatten) ++ restA)]) (l := [(0, .pure), (1, .pure), (2, .pure), (3, .pure), (4, .load), (5, .pure), (6, .pure), (7, .pure), (8, .pure), (9, .load), (10, .pure), (11, .pure), (12, .pure), (13, .pure), (14, .load), (15, .pure), (16, .pure), (17, .pure), (18, .pure), (19, .load), (20, .pure), (21, .eff), (22, .eff)]) mixed (by kernel_rfl) (by first | exact Ent.refl _ | exact Ent.pull_drop (is := [0]) rfl | exact Ent.pull_drop (is := [1]) rfl | exact Ent.pull_drop (is := [2]) rfl | exact Ent.pull_drop (is := [3]) rfl | exact Ent.pull_drop (is := [4]) rfl | exact Ent.pull_drop (is := [5]) rfl | exact Ent.pull_drop (is := [6]) rfl | exact Ent.pull_drop (is := [7]) rfl) ?_
          refine RD.pp rfl rfl rfl rfl (p_move rfl (by conv => lhs; whnf)) ?_
          refine RD.pp rfl rfl rfl rfl (p_move rfl (by conv => lhs; whnf)) ?_
          refine RD.pp rfl rfl rfl rfl (by first | exact (p_indexAddrN rfl Try.underlying58 ts_51 rfl rfl (by omega)) | exact (p_indexAddr rfl Try.underlying58 ts_51 rfl rfl (by omega))) ?_
          refine RD.pp rfl rfl rfl rfl (p_fieldAddr rfl fa_51_0 rfl) ?_
          refine RD.qq rfl rfl rfl rfl (q_load (v := .int .i64 ra[m].key.kind) rfl sc_3 rfl (i := 0) rfl (flat_atR (j := 0) Sm.four hm (by omega))) (by first | exact Ent.refl _ | exact Ent.pull_drop (is := [1]) rfl | exact Ent.pull_drop (is := [2]) rfl | exact Ent.pull_drop (is := [0]) rfl) ?_
          refine RD.pp rfl rfl rfl rfl (p_move rfl (by conv => lhs; whnf)) ?_
          refine RD.pp rfl rfl rfl rfl (p_move rfl (by conv => lhs; whnf)) ?_
          refine RD.pp rfl rfl rfl rfl (by first | exact (p_indexAddrN rfl Try.underlying58 ts_51 rfl rfl (by omega)) | exact (p_indexAddr rfl Try.underlying58 ts_51 rfl rfl (by omega))) ?_
          refine RD.pp rfl rfl rfl rfl (p_fieldAddr rfl fa_51_1 rfl) ?_
          refine RD.qq rfl rfl rfl rfl (q_load (v := u32V ra[m].key.epoch) rfl sc_48 rfl (i := 0) rfl (flat_atR (j := 1) Sm.four hm (by omega))) (by first | exact Ent.refl _ | exact Ent.pull_drop (is := [1]) rfl | exact Ent.pull_drop (is := [2]) rfl | exact Ent.pull_drop (is := [0]) rfl) ?_
          refine RD.pp rfl rfl rfl rfl (p_move rfl (by conv => lhs; whnf)) ?_
          refine RD.pp rfl rfl rfl rfl (p_move rfl (by conv => lhs; whnf)) ?_
          refine RD.pp rfl rfl rfl rfl (by first | exact (p_indexAddrN rfl Try.underlying58 ts_51 rfl rfl (by omega)) | exact (p_indexAddr rfl Try.underlying58 ts_51 rfl rfl (by omega))) ?_
          refine RD.pp rfl rfl rfl rfl (p_fieldAddr rfl fa_51_2 rfl) ?_
          refine RD.qq rfl rfl rfl rfl (q_load (v := u32V ra[m].key.group) rfl sc_48 rfl (i := 0) rfl (flat_atR (j := 2) Sm.four hm (by omega))) (by first | exact Ent.refl _ | exact Ent.pull_drop (is := [1]) rfl | exact Ent.pull_drop (is := [2]) rfl | exact Ent.pull_drop (is := [0]) rfl) ?_
          refine RD.pp rfl rfl rfl rfl (p_move rfl (by conv => lhs; whnf)) ?_
          refine RD.pp rfl rfl rfl rfl (p_move rfl (by conv => lhs; whnf)) ?_
          refine RD.pp rfl rfl rfl rfl (by first | exact (p_indexAddrN rfl Try.underlying58 ts_51 rfl rfl (by omega)) | exact (p_indexAddr rfl Try.underlying58 ts_51 rfl rfl (by omega))) ?_
          refine RD.pp rfl rfl rfl rfl (p_fieldAddr rfl fa_51_3 rfl) ?_
          refine RD.qq rfl rfl rfl rfl (q_load (v := ra[m].v) rfl sc_49 rfl (i := 0) rfl (flat_atR (j := 3) Sm.four hm (by omega))) (by first | exact Ent.refl _ | exact Ent.pull_drop (is := [1]) rfl | exact Ent.pull_drop (is := [2]) rfl | exact Ent.pull_drop (is := [0]) rfl) ?_
          refine RD.pp rfl rfl rfl rfl (p_build (cs := (strm ra[m].key.kind ra[m].key.epoch ra[m].key.group ra[m].v)) rfl pl_57 ti_57 (by rw [hv4]; rfl)) ?_
          refine RD.E rfl rfl rfl rfl (e_alloc rfl ti_57) (by rintro _ _ ⟨_, rfl, rfl⟩; exact .inl (by first | exact Ent.refl _ | exact Ent.pull_drop (is := [0]) rfl | exact Ent.pull_drop (is := [1]) rfl | exact Ent.pull_drop (is := [2]) rfl | exact Ent.pull_drop (is := [3]) rfl | exact Ent.pull_drop (is := [4]) rfl | exact Ent.pull_drop (is := [5]) rfl | exact Ent.pull_drop (is := [6]) rfl | exact Ent.pull_drop (is := [7]) rfl)) ?_
          rintro _ _ ⟨b16, rfl, rfl⟩
          refine RD.EN rfl rfl rfl (e_storeA rfl ts_57 rfl rfl rfl (Sm.one (hone _ (List.getElem_mem hm))) (i := 0) rfl (by simp)) (fun _ _ _ => .inr rfl) ?_
          rintro _ _ ⟨rfl, rfl⟩
          simp only [setN]
          rw [lay_four rfl rfl]
          refine RD.nil ?_
          refine hK37 _ _ ?_
          refine T.seq fun K38 hK38 => ?_
          refine T.regionD (z := 16) (Bs := [row b16 57 (strm ra[m].key.kind ra[m].key.epoch ra[m].key.group ra[m].v), row bB 51 (((rb.map Sm.cells).flatten) ++ restB), row bD 51 (((rc.map Sm.cells).flatten) ++ restD)]) (l := [(0, .pure), (1, .pure), (2, .pure), (3, .load), (4, .load), (5, .eff), (6, .pure), (7, .pure), (8, .pure), (9, .pure), (10, .pure), (11, .load), (12, .load), (13, .eff), (14, .pure), (15, .pure)]) mixed (by kernel_rfl) (by first | exact Ent.refl _ | exact Ent.pull_drop (is := [0, 2, 2]) rfl | exact Ent.pull_drop (is := [1, 2, 2]) rfl) ?_
          refine RD.pp rfl rfl rfl rfl (p_move rfl (by conv => lhs; whnf)) ?_
          refine RD.pp rfl rfl rfl rfl (p_move rfl (by conv => lhs; whnf)) ?_
          refine RD.pp rfl rfl rfl rfl (by first | exact (p_indexAddrN rfl Try.underlying58 ts_51 rfl rfl (by omega)) | exact (p_indexAddr rfl Try.underlying58 ts_51 rfl rfl (by omega))) ?_
          refine RD.qq rfl rfl rfl rfl (q_loadA (vs := rb[m].cells) rfl ag_51 ts_51 rfl (i := 1) rfl (by rw [List.length_append, flat_len4 Sm.four]; omega) (flat_getR Sm.four hmb)) (by first | exact Ent.refl _ | exact Ent.pull_drop (is := [0, 2, 2]) rfl | exact Ent.pull_drop (is := [1, 2, 2]) rfl) ?_
          refine RD.qq rfl rfl rfl rfl (q_loadA (vs := (strm ra[m].key.kind ra[m].key.epoch ra[m].key.group ra[m].v)) rfl ag_57 ts_57 rfl (i := 0) rfl (by show 0 + 4 ≤ 4; omega) rfl) (by first | exact Ent.refl _ | exact Ent.pull_drop (is := [0, 2, 2]) rfl | exact Ent.pull_drop (is := [1, 2, 2]) rfl) ?_
          refine RD.C [1] rfl rfl rfl rfl (c_call rfl rfl) (same_spec rb[m].key.kind rb[m].key.epoch rb[m].key.group ra[m].key.kind ra[m].key.epoch ra[m].key.group (sep [sep (ra.map Sm.own), sep (rb.map Sm.own), sep (rc.map Sm.own)]) rb[m].v ra[m].v rb[m].bytes ra[m].bytes ((Ent.drop _ _).trans ((Ent.head _ _).trans (own_view hmb))) ((Ent.head _ _).trans (own_view hm))) rfl (by rintro _ _ ⟨rfl, rfl⟩; exact .inl (by first | exact Ent.refl _ | exact Ent.pull_drop (is := [0, 2, 2]) rfl | exact Ent.pull_drop (is := [1, 2, 2]) rfl)) ?_
          rintro _ _ ⟨rfl, rfl⟩
          refine RD.pp rfl rfl rfl rfl (by first | exact (p_not_dec rfl rfl) | exact (p_not rfl rfl)) ?_
          refine RD.pp rfl rfl rfl rfl (p_move rfl (by conv => lhs; whnf)) ?_
          refine RD.known 163 rfl (show _ = Value.bool false from congrArg Value.bool (decide_eq_false (fun h => h ⟨by rw [ekb], by rw [ekb], by rw [ekb], ebb.symm⟩))) ?_
          refine RD.pp rfl rfl rfl rfl (p_move rfl (by conv => lhs; whnf)) ?_
          refine RD.pp rfl rfl rfl rfl (p_move rfl (by conv => lhs; whnf)) ?_
          refine RD.pp rfl rfl rfl rfl (by first | exact (p_indexAddrN rfl Try.underlying58 ts_51 rfl rfl (by omega)) | exact (p_indexAddr rfl Try.underlying58 ts_51 rfl rfl (by omega))) ?_
          refine RD.qq rfl rfl rfl rfl (q_loadA (vs := rc[m].cells) rfl ag_51 ts_51 rfl (i := 2) rfl (by rw [List.length_append, flat_len4 Sm.four]; omega) (flat_getR Sm.four hmc)) (by first | exact Ent.refl _ | exact Ent.pull_drop (is := [0, 2, 2]) rfl | exact Ent.pull_drop (is := [1, 2, 2]) rfl) ?_
          refine RD.qq rfl rfl rfl rfl (q_loadA (vs := (strm ra[m].key.kind ra[m].key.epoch ra[m].key.group ra[m].v)) rfl ag_57 ts_57 rfl (i := 0) rfl (by show 0 + 4 ≤ 4; omega) rfl) (by first | exact Ent.refl _ | exact Ent.pull_drop (is := [0, 2, 2]) rfl | exact Ent.pull_drop (is := [1, 2, 2]) rfl) ?_
          refine RD.C [0] rfl rfl rfl rfl (c_call rfl rfl) (same_spec rc[m].key.kind rc[m].key.epoch rc[m].key.group ra[m].key.kind ra[m].key.epoch ra[m].key.group (sep [sep (ra.map Sm.own), sep (rb.map Sm.own), sep (rc.map Sm.own)]) rc[m].v ra[m].v rc[m].bytes ra[m].bytes ((Ent.drop _ _).trans ((Ent.drop _ _).trans ((Ent.head _ _).trans (own_view hmc)))) ((Ent.head _ _).trans (own_view hm))) rfl (by rintro _ _ ⟨rfl, rfl⟩; exact .inl (by first | exact Ent.refl _ | exact Ent.pull_drop (is := [0, 2, 2]) rfl | exact Ent.pull_drop (is := [1, 2, 2]) rfl)) ?_
          rintro _ _ ⟨rfl, rfl⟩
          refine RD.pp rfl rfl rfl rfl (by first | exact (p_not_dec rfl rfl) | exact (p_not rfl rfl)) ?_
          refine RD.pp rfl rfl rfl rfl (p_pick_f rfl rfl (by conv => lhs; whnf)) ?_
          refine RD.nil ?_
          refine hK38 _ _ ?_
          refine T.known 171 rfl (show _ = Value.bool false from congrArg Value.bool (decide_eq_false (fun h => h ⟨by rw [ekc], by rw [ekc], by rw [ekc], ebc.symm⟩))) ?_
          refine T.cond_f rfl ?_
          refine T.skip ?_
          refine hK36 _ _ ?_
          refine T.region (l := [0, 1, 2]) rfl ?_
          refine RN.qq rfl rfl rfl rfl (PRun.q (p_move rfl (by conv => lhs; whnf))) ?_
          refine RN.qq rfl rfl rfl rfl (PRun.q (by first | exact (p_addN (b := 1) rfl rfl rfl (by omega)) | exact (p_add rfl rfl rfl (by omega)))) ?_
          refine RN.qq rfl rfl rfl rfl (PRun.q (p_assign rfl (by conv => lhs; whnf))) ?_
          refine RN.nil ?_
          refine ⟨m + 1, (by omega), (by omega), (LiveIs.cons rfl (LiveIs.cons rfl (LiveIs.cons rfl (LiveIs.cons rfl LiveIs.nil)))), ?_⟩
          refine (Ent.pull_drop (is := [0, 1, 1, 1, 1, 1]) rfl).trans ((Ent.flat [sep (ra.map Sm.own), sep (rb.map Sm.own), sep (rc.map Sm.own)] [row bA 51 (((ra.map Sm.cells).flatten) ++ restA), row bB 51 (((rb.map Sm.cells).flatten) ++ restB), row bD 51 (((rc.map Sm.cells).flatten) ++ restD), A, Fr]).trans ((Ent.pull_drop (is := [3, 0, 2, 0, 1, 0, 0, 0]) rfl).trans ?_))
          exact Ent.cons (vec_of_row (flat_len4 Sm.four _) a1 a2 a3) (Ent.cons (Ent.refl _) (Ent.cons (vec_of_row (flat_len4 Sm.four _) b1 b2 b3) (Ent.cons (Ent.refl _) (Ent.cons (vec_of_row (flat_len4 Sm.four _) d1 d2 d3) (Ent.refl _)))))
        ·
          refine T.exit ?_
          refine Post.seq_x ?_
          refine Post.seq_x ?_
          refine Post.block_hit ?_
          refine hK31 _ _ ?_
          refine T.seq fun K39 hK39 => ?_
          refine T.region (l := [0]) rfl ?_
          refine RN.qq rfl rfl rfl rfl (PRun.q (p_assign rfl (by conv => lhs; whnf))) ?_
          refine RN.nil ?_
          refine hK39 _ _ ?_
          refine T.ret ?_
          refine bodyQ_ret [A] (RetRun.tmp RetRun.nil) ⟨rfl, rfl⟩ (Ent.pull_drop (is := [6, 6]) rfl)

end Go.Proofs.Yticfabhcfdmbjaa
