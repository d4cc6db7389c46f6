/-
  Walks of leaf.
-/
import Derived.Test.YticfabhcfdmbjaaYtKey
import Derived.Test.YticfabhcfdmbjaaYtSort
import Derived.Test.YticfabhcfdmbjaaModelJ
set_option linter.unusedVariables false
set_option linter.unusedSimpArgs false
namespace Go.Proofs.Yticfabhcfdmbjaa
open Go Go.Sl Go.Proofs
set_option maxRecDepth 20000
open Go.Mo
theorem LJoin_spec (A : Assn) (v : Value) (ps : List Pg) (hA : Ent A (view 39 v ps.length (pgs ps))) (hok : ∀ p ∈ ps, p.fit) (hlen : ps.length ≤ 65536) : Ctr Try.prog 28 [v] [A] (JoinQ A ps) := by
  refine Ctr.of_body Try.func28 rfl (by kernel_rfl) Try.ntmps28 rfl rfl (fun Fr => ?_)
  refine T.peek (A := view 39 v ps.length (pgs ps)) ((Ent.head _ _).trans hA) view_form ?_
  rintro ⟨q, cap, rfl, hcap, hcm, hqf⟩
  refine T.seq fun K1 hK1 => ?_
  refine T.region (l := [0]) rfl ?_
  refine RN.qq rfl rfl rfl rfl (PRun.q (p_assign rfl (by conv => lhs; whnf))) ?_
  refine RN.nil ?_
  refine hK1 _ _ ?_
  refine T.seq fun K2 hK2 => ?_
  refine T.region (l := [0, 1]) rfl ?_
  refine RN.E rfl rfl rfl rfl (e_makeMap rfl) ?_
  rintro _ _ ⟨b15, rfl, rfl⟩
  refine RN.qq rfl rfl rfl rfl (PRun.q (p_assign rfl (by conv => lhs; whnf))) ?_
  refine RN.nil ?_
  refine hK2 _ _ ?_
  refine T.seq fun K3 hK3 => ?_
  refine T.region (l := [0]) rfl ?_
  refine RN.qq rfl rfl rfl rfl (PRun.q (p_assign rfl (by conv => lhs; whnf))) ?_
  refine RN.nil ?_
  refine hK3 _ _ ?_
  refine T.seq fun K4 hK4 => ?_
  refine T.seq fun K5 hK5 => ?_
  refine T.region (l := [0, 1, 2]) rfl ?_
  refine RN.qq rfl rfl rfl rfl (PRun.q (p_move rfl (by conv => lhs; whnf))) ?_
  refine RN.qq rfl rfl rfl rfl (PRun.q (p_len rfl Try.underlying45 rfl)) ?_
  refine RN.qq rfl rfl rfl rfl (PRun.q (p_move rfl (by conv => lhs; whnf))) ?_
  refine RN.nil ?_
  refine hK5 _ _ ?_
  refine T.block ?_
  refine T.loop (G := Nat × List Gr × Value) (fun ⟨i, st, kv⟩ => i ≤ ps.length ∧ Grouped (ps.take i) st ∧ kv.oneCell' = true ∧ st.length ≤ i) (fun ⟨i, st, kv⟩ => [(3, .map (some b15)), (4, kv), (16, .slice q ps.length cap), (17, intV ps.length), (18, intV i)]) (fun ⟨i, st, kv⟩ => [mp b15 (st.map Gr.kv), vec 85 3 kv st.length ((st.map (fun g => g.k.cells)).flatten), sep (st.map Gr.own), A, Fr]) (fun ⟨i, st, kv⟩ => ps.length - i) (0, [], .slice none 0 0) ⟨Nat.zero_le _, Grouped.nil, rfl, Nat.le_refl _⟩ (LiveIs.cons rfl (LiveIs.cons rfl (LiveIs.cons rfl (LiveIs.cons rfl (LiveIs.cons rfl LiveIs.nil))))) (Ent.cons (Ent.refl _) ((Ent.unflat [] _).trans (Ent.vec_nil' (el := 85) (sz := 3)))) ?_
  rintro ⟨i, st, kv⟩ e6 ⟨hil, hg, hkv, hst⟩
  dsimp only
  refine T.seq fun K7 hK7 => ?_
  refine T.region (l := [0]) rfl ?_
  refine RN.qq rfl rfl rfl rfl (PRun.q (p_lss rfl rfl rfl)) ?_
  refine RN.nil ?_
  refine hK7 _ _ ?_
  refine T.seq fun K8 hK8 => ?_
  first | refine T.cond_dec rfl (fun h19 => ?_) (fun h19 => ?_) | refine T.cond rfl (fun h19 => ?_) (fun h19 => ?_)
  ·
    have hi : i < ps.length := by omega
    obtain ⟨sb, so, rfl⟩ := hqf (by omega)
    have hp := hok _ (List.getElem_mem hi)
    refine T.skip ?_
    refine hK8 _ _ ?_
    refine T.seq fun K9 hK9 => ?_
    refine T.block ?_
    refine T.seq fun K10 hK10 => ?_
    refine T.region (l := [0, 1, 2, 3]) rfl ?_
    refine RN.qq rfl rfl rfl rfl (PRun.q (by first | exact (p_indexAddrN rfl Try.underlying45 ts_54 rfl rfl (by omega)) | exact (p_indexAddr rfl Try.underlying45 ts_54 rfl rfl (by omega)))) ?_
    refine RN.qq rfl rfl rfl rfl (QRun.ent ((Ent.pull_drop (is := [3]) rfl).trans (Ent.cons (hA.trans (view_cells (by omega))) (Ent.refl _))) (q_loadCA (j := i * 39) rfl ag_54 ts_54 rfl (i := 0) rfl (by rw [pgs_length (fun p hp => (hok p hp).ok.pay)]; omega) (pgs_get (fun p hp => (hok p hp).ok.pay) hi))) ?_
    refine RN.E rfl rfl rfl rfl (e_alloc rfl ti_54) ?_
    rintro _ _ ⟨b6, rfl, rfl⟩
    refine RN.EN rfl rfl rfl (e_storeA rfl ts_54 rfl rfl (Pg.cells_length hp.ok.pay) Pg.one (i := 0) rfl (by simp)) ?_
    rintro _ _ ⟨rfl, rfl⟩
    simp only [setN]
    rw [lay_pg rfl hp.ok.pay]
    refine RN.nil ?_
    refine hK10 _ _ ?_
    refine T.cut (G := Unit) (fun ⟨⟩ => ps[i].valid) (fun ⟨⟩ => [(3, .map (some b15)), (4, kv), (16, .slice (some ⟨sb, so, none⟩) ps.length cap), (17, intV ps.length), (18, intV i), (6, ptr b6 0)]) (fun ⟨⟩ => [row b6 54 ps[i].cells, mp b15 (st.map Gr.kv), vec 85 3 kv st.length ((st.map (fun g => g.k.cells)).flatten), sep (st.map Gr.own), A, Fr]) ?_ ?_
    ·
      refine T.seq fun K12 hK12 => ?_
      refine T.region (l := [0, 1, 2, 3, 4, 5, 6, 7]) rfl ?_
      refine RN.qq rfl rfl rfl rfl (PRun.q (p_fieldAddr rfl fa_54_0 rfl)) ?_
      refine RN.qq rfl rfl rfl rfl (by first | exact (q_load rfl sc_3 rfl (i := 0) rfl rfl) | exact (q_load rfl sc_3 rfl (i := 1) rfl rfl) | exact (q_load rfl sc_3 rfl (i := 2) rfl rfl) | exact (q_load rfl sc_3 rfl (i := 3) rfl rfl) | exact (q_load rfl sc_3 rfl (i := 4) rfl rfl) | exact (q_load rfl sc_3 rfl (i := 5) rfl rfl)) ?_
      refine RN.qq rfl rfl rfl rfl (PRun.q (p_neq rfl rfl rfl)) ?_
      refine RN.qq rfl rfl rfl rfl (PRun.q (p_move rfl (by conv => lhs; whnf))) ?_
      first | refine RN.split_dec 25 rfl (fun h25 => ?_) (fun h25 => ?_) | refine RN.split 25 rfl (fun h25 => ?_) (fun h25 => ?_)
      ·
        refine RN.qq rfl rfl rfl rfl (PRun.q (p_fieldAddr rfl fa_54_0 rfl)) ?_
        refine RN.qq rfl rfl rfl rfl (by first | exact (q_load rfl sc_3 rfl (i := 0) rfl rfl) | exact (q_load rfl sc_3 rfl (i := 1) rfl rfl) | exact (q_load rfl sc_3 rfl (i := 2) rfl rfl) | exact (q_load rfl sc_3 rfl (i := 3) rfl rfl) | exact (q_load rfl sc_3 rfl (i := 4) rfl rfl) | exact (q_load rfl sc_3 rfl (i := 5) rfl rfl)) ?_
        refine RN.qq rfl rfl rfl rfl (PRun.q (p_neq rfl rfl rfl)) ?_
        refine RN.qq rfl rfl rfl rfl (PRun.q (p_pick_t rfl rfl (by conv => lhs; whnf))) ?_
        refine RN.nil ?_
        refine hK12 _ _ ?_
        first | refine T.cond_dec rfl (fun h29 => ?_) (fun h29 => ?_) | refine T.cond rfl (fun h29 => ?_) (fun h29 => ?_)
        ·
          have hnv : ¬ ps[i].valid := fun hh => hh.elim h25 h29
          refine T.exit ?_
          refine Post.seq_x ?_
          refine Post.block_hit ?_
          refine hK9 _ _ ?_
          refine T.region (l := [0, 1]) rfl ?_
          refine RN.qq rfl rfl rfl rfl (PRun.q (by first | exact (p_addN (b := 1) rfl rfl rfl (by omega)) | exact (p_add rfl rfl rfl (by omega)))) ?_
          refine RN.qq rfl rfl rfl rfl (PRun.q (p_move rfl (by conv => lhs; whnf))) ?_
          refine RN.nil ?_
          refine ⟨(i + 1, st, kv), ⟨by omega, by rw [List.take_succ_eq_append_getElem hi]; exact hg.skip hnv, hkv, by show st.length ≤ i + 1; omega⟩, (by show _ - (i + 1) < _ - i; omega), (LiveIs.cons rfl (LiveIs.cons rfl (LiveIs.cons rfl (LiveIs.cons rfl (LiveIs.cons rfl LiveIs.nil))))), (Ent.pull_drop (is := [1, 1, 1, 1, 1]) rfl)⟩
        ·
          refine T.skip ?_
          refine ⟨(), (.inr (Classical.not_not.1 h29)), (LiveIs.cons rfl (LiveIs.cons rfl (LiveIs.cons rfl (LiveIs.cons rfl (LiveIs.cons rfl (LiveIs.cons rfl LiveIs.nil)))))), Ent.refl _⟩
      ·
        refine RN.O rfl rfl rfl rfl ?_
        refine RN.O rfl rfl rfl rfl ?_
        refine RN.O rfl rfl rfl rfl ?_
        refine RN.qq rfl rfl rfl rfl (PRun.q (p_pick_f rfl rfl (by conv => lhs; whnf))) ?_
        refine RN.nil ?_
        refine hK12 _ _ ?_
        refine T.cond_f rfl ?_
        refine T.skip ?_
        refine ⟨(), (.inl (Classical.not_not.1 h25)), (LiveIs.cons rfl (LiveIs.cons rfl (LiveIs.cons rfl (LiveIs.cons rfl (LiveIs.cons rfl (LiveIs.cons rfl LiveIs.nil)))))), Ent.refl _⟩
    ·
      rintro ⟨⟩ e11 hvd
      have hkey := key_ok hp hvd
      have hkall := gr_keyed hg (fun p hpp => hok p (List.mem_of_mem_take hpp))
      have hnd := gr_nodup hg
      refine T.seq fun K13 hK13 => ?_
      refine T.region (l := [0, 1, 2, 3, 4, 5, 6, 7, 8]) rfl ?_
      refine RN.qq rfl rfl rfl rfl (PRun.q (p_fieldAddr rfl fa_54_0 rfl)) ?_
      refine RN.qq rfl rfl rfl rfl (by first | exact (q_load rfl sc_3 rfl (i := 0) rfl rfl) | exact (q_load rfl sc_3 rfl (i := 1) rfl rfl) | exact (q_load rfl sc_3 rfl (i := 2) rfl rfl) | exact (q_load rfl sc_3 rfl (i := 3) rfl rfl) | exact (q_load rfl sc_3 rfl (i := 4) rfl rfl) | exact (q_load rfl sc_3 rfl (i := 5) rfl rfl)) ?_
      refine RN.qq rfl rfl rfl rfl (PRun.q (p_fieldAddr rfl fa_54_3 rfl)) ?_
      refine RN.qq rfl rfl rfl rfl (by first | exact (q_load rfl sc_48 rfl (i := 0) rfl rfl) | exact (q_load rfl sc_48 rfl (i := 1) rfl rfl) | exact (q_load rfl sc_48 rfl (i := 2) rfl rfl) | exact (q_load rfl sc_48 rfl (i := 3) rfl rfl) | exact (q_load rfl sc_48 rfl (i := 4) rfl rfl) | exact (q_load rfl sc_48 rfl (i := 5) rfl rfl)) ?_
      refine RN.qq rfl rfl rfl rfl (PRun.q (p_fieldAddr rfl fa_54_4 rfl)) ?_
      refine RN.qq rfl rfl rfl rfl (by first | exact (q_load rfl sc_48 rfl (i := 0) rfl rfl) | exact (q_load rfl sc_48 rfl (i := 1) rfl rfl) | exact (q_load rfl sc_48 rfl (i := 2) rfl rfl) | exact (q_load rfl sc_48 rfl (i := 3) rfl rfl) | exact (q_load rfl sc_48 rfl (i := 4) rfl rfl) | exact (q_load rfl sc_48 rfl (i := 5) rfl rfl)) ?_
      refine RN.qq rfl rfl rfl rfl (PRun.q (p_build (cs := ps[i].key.cells) rfl pl_85 ti_85 rfl)) ?_
      refine RN.E rfl rfl rfl rfl (e_alloc rfl ti_85) ?_
      rintro _ _ ⟨b7, rfl, rfl⟩
      refine RN.EN rfl rfl rfl (e_storeA rfl ts_85 rfl rfl rfl Ky.one (i := 0) rfl (by simp)) ?_
      rintro _ _ ⟨rfl, rfl⟩
      simp only [setN]
      rw [lay_ky rfl]
      refine RN.nil ?_
      refine hK13 _ _ ?_
      refine T.seq fun K14 hK14 => ?_
      refine T.seq fun K15 hK15 => ?_
      refine T.region (l := [0, 1, 2, 3, 4, 5, 6, 7]) rfl ?_
      refine RN.qq rfl rfl rfl rfl (PRun.q (p_move rfl (by conv => lhs; whnf))) ?_
      refine RN.qq rfl rfl rfl rfl (q_loadA (vs := ps[i].key.cells) rfl ag_85 ts_85 rfl (i := 0) rfl (by show 3 ≤ 3; omega) rfl) ?_
      refine RN.qq rfl rfl rfl rfl (q_lookup rfl Try.underlying82 kl85 z45 rfl rfl (i := 2) rfl (keyed85 hkey) hkall hnd) ?_
      refine RN.qq rfl rfl rfl rfl (PRun.q (p_move rfl (by conv => lhs; whnf))) ?_
      refine RN.qq rfl rfl rfl rfl (PRun.q (p_extract rfl rfl rfl)) ?_
      refine RN.qq rfl rfl rfl rfl (PRun.q (p_extract rfl rfl rfl)) ?_
      refine RN.qq rfl rfl rfl rfl (PRun.q (p_assign rfl (by conv => lhs; whnf))) ?_
      refine RN.qq rfl rfl rfl rfl (PRun.q (p_assign rfl (by conv => lhs; whnf))) ?_
      refine RN.nil ?_
      refine hK15 _ _ ?_
      refine T.seq fun K16 hK16 => ?_
      refine T.region (l := [0, 1]) rfl ?_
      refine RN.qq rfl rfl rfl rfl (PRun.q (p_move rfl (by conv => lhs; whnf))) ?_
      refine RN.qq rfl rfl rfl rfl (PRun.q (by first | exact (p_not_dec rfl rfl) | exact (p_not rfl rfl))) ?_
      refine RN.nil ?_
      refine hK16 _ _ ?_
      first | refine T.cond_dec rfl (fun h44 => ?_) (fun h44 => ?_) | refine T.cond rfl (fun h44 => ?_) (fun h44 => ?_)
      ·
        have hlk : Sl.look (st.map Gr.kv) ps[i].key.cells = none := by
          cases h : Sl.look (st.map Gr.kv) ps[i].key.cells with
          | none => rfl
          | some x => rw [h] at h44; cases h44
        have hnk := gr_none hg hlk
        refine T.region (l := [0, 1, 2, 3, 4]) rfl ?_
        refine RN.qq rfl rfl rfl rfl (PRun.q (p_move rfl (by conv => lhs; whnf))) ?_
        refine RN.qq rfl rfl rfl rfl (q_loadA (vs := ps[i].key.cells) rfl ag_85 ts_85 rfl (i := 0) rfl (by show 3 ≤ 3; omega) rfl) ?_
        refine RN.E rfl rfl rfl rfl (e_buildSlice1A rfl Try.underlying83 ti_85 rfl rfl rfl (by decide)) ?_
        rintro _ _ ⟨b47, rfl, rfl⟩
        refine RN.E rfl rfl rfl rfl (e_append rfl Try.underlying83 ni_83 ti_85 rfl rfl (i := 4) rfl (src_full (i := 0) rfl rfl) Ky.one (by omega)) ?_
        rintro v48 _ ⟨hv48, rfl⟩
        refine RN.qq rfl rfl rfl rfl (PRun.q (p_assign rfl (by conv => lhs; whnf))) ?_
        refine RN.nil ?_
        refine hK14 _ _ ?_
        refine T.region (l := [0, 1, 2, 3, 4, 5, 6, 7, 8]) rfl ?_
        refine RN.qq rfl rfl rfl rfl (PRun.q (p_move rfl (by conv => lhs; whnf))) ?_
        refine RN.qq rfl rfl rfl rfl (q_loadA (vs := ps[i].key.cells) rfl ag_85 ts_85 rfl (i := 1) rfl (by show 3 ≤ 3; omega) rfl) ?_
        refine RN.qq rfl rfl rfl rfl (by first | exact (q_loadA rfl ag_54 ts_54 rfl (i := 0) rfl (by rw [Pg.cells_length hp.ok.pay]; omega) (by rw [List.drop_zero, List.take_of_length_le (by rw [Pg.cells_length hp.ok.pay]; omega)])) | exact (q_loadA rfl ag_54 ts_54 rfl (i := 1) rfl (by rw [Pg.cells_length hp.ok.pay]; omega) (by rw [List.drop_zero, List.take_of_length_le (by rw [Pg.cells_length hp.ok.pay]; omega)])) | exact (q_loadA rfl ag_54 ts_54 rfl (i := 2) rfl (by rw [Pg.cells_length hp.ok.pay]; omega) (by rw [List.drop_zero, List.take_of_length_le (by rw [Pg.cells_length hp.ok.pay]; omega)])) | exact (q_loadA rfl ag_54 ts_54 rfl (i := 3) rfl (by rw [Pg.cells_length hp.ok.pay]; omega) (by rw [List.drop_zero, List.take_of_length_le (by rw [Pg.cells_length hp.ok.pay]; omega)])) | exact (q_loadA rfl ag_54 ts_54 rfl (i := 4) rfl (by rw [Pg.cells_length hp.ok.pay]; omega) (by rw [List.drop_zero, List.take_of_length_le (by rw [Pg.cells_length hp.ok.pay]; omega)])) | exact (q_loadA rfl ag_54 ts_54 rfl (i := 5) rfl (by rw [Pg.cells_length hp.ok.pay]; omega) (by rw [List.drop_zero, List.take_of_length_le (by rw [Pg.cells_length hp.ok.pay]; omega)]))) ?_
        refine RN.E rfl rfl rfl rfl (e_buildSlice1A rfl Try.underlying45 ti_54 rfl rfl (Pg.cells_length hp.ok.pay) (by decide)) ?_
        rintro _ _ ⟨b53, rfl, rfl⟩
        refine RN.E rfl rfl rfl rfl (e_mapEntry rfl Try.underlying82 kl85 z45 rfl rfl (i := 4) rfl (keyed85 hkey) hkall hnd) ?_
        rintro _ _ ⟨rfl, rfl⟩
        rw [hlk]
        simp only [Option.elim_none, setN]
        refine RN.qq rfl rfl rfl rfl (PRun.q (p_extract rfl rfl rfl)) ?_
        refine RN.ent (Ent.vec_nil' (el := 54) (sz := 39)) ?_
        refine RN.E rfl rfl rfl rfl (e_append rfl Try.underlying45 ni_45 ti_54 rfl rfl (i := 0) rfl (src_full (i := 1) rfl (Pg.cells_length hp.ok.pay)) Pg.one (by omega)) ?_
        rintro v55 _ ⟨hv55, rfl⟩
        refine RN.qq rfl rfl rfl rfl (PRun.q (p_extract rfl rfl rfl)) ?_
        refine RN.EN rfl rfl rfl (e_entryStore (v := v55) (j := (st.map Gr.kv).length) (k0 := ps[i].key.cells) (v0 := .slice none 0 0) rfl rfl rfl rfl (i := 5) rfl (by simp)) ?_
        rintro _ _ ⟨rfl, rfl⟩
        refine RN.nil ?_
        refine hK9 _ _ ?_
        refine T.region (l := [0, 1]) rfl ?_
        refine RN.qq rfl rfl rfl rfl (PRun.q (by first | exact (p_addN (b := 1) rfl rfl rfl (by omega)) | exact (p_add rfl rfl rfl (by omega)))) ?_
        refine RN.qq rfl rfl rfl rfl (PRun.q (p_move rfl (by conv => lhs; whnf))) ?_
        refine RN.nil ?_
        refine ⟨(i + 1, st ++ [⟨ps[i].key, v55, [ps[i]]⟩], v48), ⟨by omega, by rw [List.take_succ_eq_append_getElem hi]; exact hg.push hvd hnk hv55, hv48, by show (st ++ _).length ≤ i + 1; rw [List.length_append]; simp; omega⟩, (by show _ - (i + 1) < _ - i; omega), (LiveIs.cons rfl (LiveIs.cons rfl (LiveIs.cons rfl (LiveIs.cons rfl (LiveIs.cons rfl LiveIs.nil))))), ?_⟩
        refine (Ent.pull_drop (is := [5, 5, 0, 4, 4, 4]) rfl).trans ?_
        refine Ent.trans (Ent.cons (Ent.of_eq ?_) (Ent.cons (Ent.of_eq ?_) ((Ent.cons (Ent.of_eq ?_) (Ent.refl _)).trans (gr_push (g := ⟨ps[i].key, v55, [ps[i]]⟩))))) (Ent.refl _)
        · simp [Gr.kv]
        · simp
        · simp [Gr.own, pgs]
      ·
        obtain ⟨⟨j, vj⟩, hlk⟩ : ∃ x, Sl.look (st.map Gr.kv) ps[i].key.cells = some x := by
          cases h : Sl.look (st.map Gr.kv) ps[i].key.cells with
          | none => rw [h] at h44; cases h44
          | some x => exact ⟨x, rfl⟩
        obtain ⟨hj, hkj, rfl⟩ := gr_some hlk
        refine T.skip ?_
        refine hK14 _ _ ?_
        refine T.region (l := [0, 1, 2, 3, 4, 5, 6, 7, 8]) rfl ?_
        refine RN.qq rfl rfl rfl rfl (PRun.q (p_move rfl (by conv => lhs; whnf))) ?_
        refine RN.qq rfl rfl rfl rfl (q_loadA (vs := ps[i].key.cells) rfl ag_85 ts_85 rfl (i := 0) rfl (by show 3 ≤ 3; omega) rfl) ?_
        refine RN.qq rfl rfl rfl rfl (by first | exact (q_loadA rfl ag_54 ts_54 rfl (i := 0) rfl (by rw [Pg.cells_length hp.ok.pay]; omega) (by rw [List.drop_zero, List.take_of_length_le (by rw [Pg.cells_length hp.ok.pay]; omega)])) | exact (q_loadA rfl ag_54 ts_54 rfl (i := 1) rfl (by rw [Pg.cells_length hp.ok.pay]; omega) (by rw [List.drop_zero, List.take_of_length_le (by rw [Pg.cells_length hp.ok.pay]; omega)])) | exact (q_loadA rfl ag_54 ts_54 rfl (i := 2) rfl (by rw [Pg.cells_length hp.ok.pay]; omega) (by rw [List.drop_zero, List.take_of_length_le (by rw [Pg.cells_length hp.ok.pay]; omega)])) | exact (q_loadA rfl ag_54 ts_54 rfl (i := 3) rfl (by rw [Pg.cells_length hp.ok.pay]; omega) (by rw [List.drop_zero, List.take_of_length_le (by rw [Pg.cells_length hp.ok.pay]; omega)])) | exact (q_loadA rfl ag_54 ts_54 rfl (i := 4) rfl (by rw [Pg.cells_length hp.ok.pay]; omega) (by rw [List.drop_zero, List.take_of_length_le (by rw [Pg.cells_length hp.ok.pay]; omega)])) | exact (q_loadA rfl ag_54 ts_54 rfl (i := 5) rfl (by rw [Pg.cells_length hp.ok.pay]; omega) (by rw [List.drop_zero, List.take_of_length_le (by rw [Pg.cells_length hp.ok.pay]; omega)]))) ?_
        refine RN.E rfl rfl rfl rfl (e_buildSlice1A rfl Try.underlying45 ti_54 rfl rfl (Pg.cells_length hp.ok.pay) (by decide)) ?_
        rintro _ _ ⟨b53, rfl, rfl⟩
        refine RN.E rfl rfl rfl rfl (e_mapEntry rfl Try.underlying82 kl85 z45 rfl rfl (i := 3) rfl (keyed85 hkey) hkall hnd) ?_
        rintro _ _ ⟨rfl, rfl⟩
        rw [hlk]
        simp only [Option.elim_some, setN]
        refine RN.qq rfl rfl rfl rfl (PRun.q (p_extract rfl rfl rfl)) ?_
        refine RN.ent (Ent.inside (i := 5) rfl (gr_own hj)) ?_
        refine RN.E rfl rfl rfl rfl (e_append rfl Try.underlying45 ni_45 ti_54 rfl rfl (i := 0) rfl (src_full (i := 2) rfl (Pg.cells_length hp.ok.pay)) Pg.one (by have := gr_len hg (List.getElem_mem hj); rw [List.length_take] at this; omega)) ?_
        rintro v55 _ ⟨hv55, rfl⟩
        refine RN.qq rfl rfl rfl rfl (PRun.q (p_extract rfl rfl rfl)) ?_
        refine RN.EN rfl rfl rfl (e_entryStore (v := v55) (j := j) (k0 := st[j].k.cells) (v0 := st[j].v) rfl rfl rfl rfl (i := 5) rfl (by rw [List.getElem?_map, List.getElem?_eq_getElem hj]; rfl)) ?_
        rintro _ _ ⟨rfl, rfl⟩
        refine RN.nil ?_
        refine hK9 _ _ ?_
        refine T.region (l := [0, 1]) rfl ?_
        refine RN.qq rfl rfl rfl rfl (PRun.q (by first | exact (p_addN (b := 1) rfl rfl rfl (by omega)) | exact (p_add rfl rfl rfl (by omega)))) ?_
        refine RN.qq rfl rfl rfl rfl (PRun.q (p_move rfl (by conv => lhs; whnf))) ?_
        refine RN.nil ?_
        refine ⟨(i + 1, st.set j ⟨ps[i].key, v55, st[j].ps ++ [ps[i]]⟩, kv), ⟨by omega, by rw [List.take_succ_eq_append_getElem hi]; exact hg.add hj hvd hkj hv55, hkv, by show (st.set j _).length ≤ i + 1; rw [List.length_set]; omega⟩, (by show _ - (i + 1) < _ - i; omega), (LiveIs.cons rfl (LiveIs.cons rfl (LiveIs.cons rfl (LiveIs.cons rfl (LiveIs.cons rfl LiveIs.nil))))), ?_⟩
        refine (Ent.pull_drop (is := [5, 5, 0, 0, 3, 3]) rfl).trans ?_
        refine Ent.trans (Ent.cons (Ent.of_eq ?_) (Ent.cons (Ent.of_eq ?_) ((Ent.cons (Ent.of_eq ?_) (Ent.refl _)).trans (gr_set (g := ⟨ps[i].key, v55, st[j].ps ++ [ps[i]]⟩) hj)))) (Ent.refl _)
        · rw [List.map_set, hkj]; rfl
        · rw [List.length_set, map_key_set hj hkj]
        · simp only [Gr.own]; rw [pgs_push, List.length_append]; rfl
  ·
    have hi : i = ps.length := by omega
    subst hi
    rw [List.take_length] at hg
    refine T.exit ?_
    refine Post.seq_x ?_
    refine Post.seq_x ?_
    refine Post.block_hit ?_
    refine hK4 _ _ ?_
    refine T.seq fun K17 hK17 => ?_
    refine T.ent (Ent.at (i := 1) (B := vec 85 3 kv (st.map (·.k)).length (((st.map (·.k)).map Ky.cells).flatten)) rfl (Ent.of_eq (by rw [List.length_map, List.map_map]; rfl))) ?_
    have hkall := gr_keyed hg hok
    have hnd := gr_nodup hg
    refine T.region (l := [0, 1]) rfl ?_
    refine RN.qq rfl rfl rfl rfl (PRun.q (p_move rfl (by conv => lhs; whnf))) ?_
    refine RN.C [1] rfl rfl rfl rfl (c_call rfl rfl) (SortV_spec kv (st.map (·.k)) (by rw [List.length_map]; omega)) rfl ?_
    rintro _ _ ⟨rfl, ys, hperm, hsort, rfl⟩
    have hks := keysOf_of hg hperm hsort
    have hyl : ys.length = st.length := by rw [hperm.length_eq, List.length_map]
    refine RN.nil ?_
    refine hK17 _ _ ?_
    refine T.seq fun K18 hK18 => ?_
    refine T.region (l := [0]) rfl ?_
    refine RN.qq rfl rfl rfl rfl (PRun.q (p_assign rfl (by conv => lhs; whnf))) ?_
    refine RN.nil ?_
    refine hK18 _ _ ?_
    refine T.seq fun K19 hK19 => ?_
    refine T.seq fun K20 hK20 => ?_
    refine T.region (l := [0, 1, 2]) rfl ?_
    refine RN.qq rfl rfl rfl rfl (PRun.q (p_move rfl (by conv => lhs; whnf))) ?_
    refine RN.qq rfl rfl rfl rfl (q_len_vec rfl Try.underlying83 rfl (i := 0) rfl) ?_
    refine RN.qq rfl rfl rfl rfl (PRun.q (p_move rfl (by conv => lhs; whnf))) ?_
    refine RN.nil ?_
    refine hK20 _ _ ?_
    refine T.block ?_
    refine T.loop (G := Nat × List Sm × Value) (fun ⟨m, rs, ov⟩ => m ≤ ys.length ∧ rs.map (fun s => (s.key, s.bytes)) = joinKs ps (ys.take m) ∧ ov.oneCell' = true ∧ (∀ s ∈ rs, s.v.oneCell' = true) ∧ rs.length ≤ m) (fun ⟨m, rs, ov⟩ => [(3, .map (some b15)), (10, ov), (60, kv), (61, intV ys.length), (62, intV m)]) (fun ⟨m, rs, ov⟩ => [vec 51 4 ov rs.length ((rs.map Sm.cells).flatten), sep (rs.map Sm.own), vec 85 3 kv ys.length ((ys.map Ky.cells).flatten), mp b15 (st.map Gr.kv), sep (st.map Gr.own), A, Fr]) (fun ⟨m, rs, ov⟩ => ys.length - m) (0, [], .slice none 0 0) ⟨Nat.zero_le _, rfl, rfl, fun s h => by simp at h, Nat.le_refl _⟩ (LiveIs.cons rfl (LiveIs.cons rfl (LiveIs.cons rfl (LiveIs.cons rfl (LiveIs.cons rfl LiveIs.nil))))) ((Ent.unflat [] _).trans (Ent.vec_nil' (el := 51) (sz := 4))) ?_
    rintro ⟨m, rs, ov⟩ e21 ⟨hml, hrs, hov, hone, hrl⟩
    dsimp only
    refine T.seq fun K22 hK22 => ?_
    refine T.region (l := [0]) rfl ?_
    refine RN.qq rfl rfl rfl rfl (PRun.q (p_lss rfl rfl rfl)) ?_
    refine RN.nil ?_
    refine hK22 _ _ ?_
    refine T.seq fun K23 hK23 => ?_
    first | refine T.cond_dec rfl (fun h63 => ?_) (fun h63 => ?_) | refine T.cond rfl (fun h63 => ?_) (fun h63 => ?_)
    ·
      have hm : m < ys.length := by omega
      obtain ⟨g, hgm, hgk⟩ := List.mem_map.1 (hperm.mem_iff.1 (List.getElem_mem hm))
      obtain ⟨j, hj, rfl⟩ := List.getElem_of_mem hgm
      have hyk : ys[m].ok := by
        obtain ⟨p, hp, hv, hk⟩ := (hks.mem _).1 (List.getElem_mem hm)
        exact hk ▸ key_ok (hok p hp) hv
      have hlk : Sl.look (st.map Gr.kv) ys[m].cells = some (j, st[j].v) := gr_look hnd hj hgk
      have hps : st[j].ps = ps.filter (fun p => decide (p.valid ∧ p.key = ys[m])) := by rw [hg.ps _ (List.getElem_mem hj), hgk]
      obtain ⟨p0, pr, hpp⟩ : ∃ p0 pr, st[j].ps = p0 :: pr := by
        obtain ⟨p, hp, hv, hk⟩ := (hks.mem _).1 (List.getElem_mem hm)
        cases hc : st[j].ps with
        | nil =>
          rw [hps, List.filter_eq_nil_iff] at hc
          exact absurd (decide_eq_true ⟨hv, hk⟩) (hc p hp)
        | cons a l => exact ⟨a, l, rfl⟩
      have hmem : ∀ p ∈ p0 :: pr, p ∈ ps := fun p hp => by
        rw [← hpp, hps] at hp
        exact (List.mem_filter.1 hp).1
      have hjr : joinR ps ys[m] = wholeL (p0 :: pr) := by unfold joinR; rw [← hps, hpp]
      have hpl : (p0 :: pr).length ≤ 65536 := by rw [← hpp]; exact Nat.le_trans (gr_len hg (List.getElem_mem hj)) hlen
      refine T.openVec 2 rfl (by omega) ?_
      rintro bK capK restK rfl hq1 hq2 hq3
      refine T.skip ?_
      refine hK23 _ _ ?_
      refine T.seq fun K24 hK24 => ?_
      refine T.block ?_
      refine T.seq fun K25 hK25 => ?_
      refine T.region (l := [0, 1, 2, 3]) rfl ?_
      refine RN.qq rfl rfl rfl rfl (PRun.q (by first | exact (p_indexAddrN rfl Try.underlying83 ts_85 rfl rfl (by omega)) | exact (p_indexAddr rfl Try.underlying83 ts_85 rfl rfl (by omega)))) ?_
      refine RN.qq rfl rfl rfl rfl (q_loadA (vs := ys[m].cells) rfl ag_85 ts_85 rfl (i := 2) rfl (ky_len hm) (ky_get hm)) ?_
      refine RN.E rfl rfl rfl rfl (e_alloc rfl ti_85) ?_
      rintro _ _ ⟨b12, rfl, rfl⟩
      refine RN.EN rfl rfl rfl (e_storeA rfl ts_85 rfl rfl rfl Ky.one (i := 0) rfl (by simp)) ?_
      rintro _ _ ⟨rfl, rfl⟩
      simp only [setN]
      rw [lay_ky rfl]
      refine RN.nil ?_
      refine hK25 _ _ ?_
      refine T.seq fun K26 hK26 => ?_
      refine T.region (l := [0, 1, 2, 3, 4, 5, 6, 7, 8]) rfl ?_
      refine RN.qq rfl rfl rfl rfl (PRun.q (p_move rfl (by conv => lhs; whnf))) ?_
      refine RN.qq rfl rfl rfl rfl (q_loadA (vs := ys[m].cells) rfl ag_85 ts_85 rfl (i := 0) rfl (by show 3 ≤ 3; omega) rfl) ?_
      refine RN.qq rfl rfl rfl rfl (q_lookup (zv := .slice none 0 0) rfl Try.underlying82 kl85 z45 rfl rfl (i := 4) rfl (keyed85 hyk) hkall hnd) ?_
      rw [hlk]
      refine RN.ent (Ent.inside (i := 5) rfl (gr_own hj)) ?_
      refine RN.C [0] rfl rfl rfl rfl (c_call rfl rfl) (Whole_spec (vec 54 39 st[j].v st[j].ps.length (pgs st[j].ps)) st[j].v p0 pr (by rw [hpp]; exact view_of_vec) (fun p hp => (hok p (hmem p hp)).ok) hpl) rfl ?_
      rintro v70 Ps70 hq70
      obtain ⟨x70, y70, rfl, hy1, hy2⟩ := WholeQ_tup hq70
      refine RN.qq rfl rfl rfl rfl (PRun.q (p_move rfl (by conv => lhs; whnf))) ?_
      refine RN.qq rfl rfl rfl rfl (PRun.q (p_extract rfl rfl rfl)) ?_
      refine RN.qq rfl rfl rfl rfl (PRun.q (p_extract rfl rfl rfl)) ?_
      refine RN.qq rfl rfl rfl rfl (PRun.q (p_assign rfl (by conv => lhs; whnf))) ?_
      refine RN.qq rfl rfl rfl rfl (PRun.q (p_assign rfl (by conv => lhs; whnf))) ?_
      refine RN.nil ?_
      refine hK26 _ _ ?_
      refine T.seq fun K27 hK27 => ?_
      refine T.region (l := [0]) rfl ?_
      refine RN.qq rfl rfl rfl rfl (PRun.q (p_move rfl (by conv => lhs; whnf))) ?_
      refine RN.nil ?_
      refine hK27 _ _ ?_
      first | refine T.cond_dec rfl (fun h73 => ?_) (fun h73 => ?_) | refine T.cond rfl (fun h73 => ?_) (fun h73 => ?_)
      ·
        obtain ⟨bs, hwl, hx70, rfl⟩ := hy1 h73
        refine T.peek (Ent.head _ _) vec_form ?_
        rintro ⟨xq, xn, xc, rfl⟩
        refine T.region (l := [0, 1, 2, 3, 4, 5, 6, 7, 8, 9, 10, 11]) rfl ?_
        refine RN.qq rfl rfl rfl rfl (PRun.q (p_move rfl (by conv => lhs; whnf))) ?_
        refine RN.qq rfl rfl rfl rfl (PRun.q (p_fieldAddr rfl fa_85_0 rfl)) ?_
        refine RN.qq rfl rfl rfl rfl (by first | exact (q_load rfl sc_3 rfl (i := 0) rfl rfl) | exact (q_load rfl sc_3 rfl (i := 1) rfl rfl) | exact (q_load rfl sc_3 rfl (i := 2) rfl rfl) | exact (q_load rfl sc_3 rfl (i := 3) rfl rfl) | exact (q_load rfl sc_3 rfl (i := 4) rfl rfl) | exact (q_load rfl sc_3 rfl (i := 5) rfl rfl)) ?_
        refine RN.qq rfl rfl rfl rfl (PRun.q (p_fieldAddr rfl fa_85_1 rfl)) ?_
        refine RN.qq rfl rfl rfl rfl (by first | exact (q_load rfl sc_48 rfl (i := 0) rfl rfl) | exact (q_load rfl sc_48 rfl (i := 1) rfl rfl) | exact (q_load rfl sc_48 rfl (i := 2) rfl rfl) | exact (q_load rfl sc_48 rfl (i := 3) rfl rfl) | exact (q_load rfl sc_48 rfl (i := 4) rfl rfl) | exact (q_load rfl sc_48 rfl (i := 5) rfl rfl)) ?_
        refine RN.qq rfl rfl rfl rfl (PRun.q (p_fieldAddr rfl fa_85_2 rfl)) ?_
        refine RN.qq rfl rfl rfl rfl (by first | exact (q_load rfl sc_48 rfl (i := 0) rfl rfl) | exact (q_load rfl sc_48 rfl (i := 1) rfl rfl) | exact (q_load rfl sc_48 rfl (i := 2) rfl rfl) | exact (q_load rfl sc_48 rfl (i := 3) rfl rfl) | exact (q_load rfl sc_48 rfl (i := 4) rfl rfl) | exact (q_load rfl sc_48 rfl (i := 5) rfl rfl)) ?_
        refine RN.qq rfl rfl rfl rfl (PRun.q (p_move rfl (by conv => lhs; whnf))) ?_
        refine RN.qq rfl rfl rfl rfl (PRun.q (p_build (cs := strm ys[m].kind ys[m].epoch ys[m].group (.slice xq xn xc)) rfl pl_51 ti_51 rfl)) ?_
        refine RN.E rfl rfl rfl rfl (e_buildSlice1A rfl Try.underlying58 ti_51 rfl rfl rfl (by decide)) ?_
        rintro _ _ ⟨b83, rfl, rfl⟩
        refine RN.E rfl rfl rfl rfl (e_append rfl Try.underlying58 ni_58 ti_51 rfl rfl (i := 5) rfl (src_full (i := 0) rfl rfl) (Sm.one hx70) (by omega)) ?_
        rintro v84 _ ⟨hv84, rfl⟩
        refine RN.qq rfl rfl rfl rfl (PRun.q (p_assign rfl (by conv => lhs; whnf))) ?_
        refine RN.nil ?_
        refine hK24 _ _ ?_
        refine T.region (l := [0, 1]) rfl ?_
        refine RN.qq rfl rfl rfl rfl (PRun.q (by first | exact (p_addN (b := 1) rfl rfl rfl (by omega)) | exact (p_add rfl rfl rfl (by omega)))) ?_
        refine RN.qq rfl rfl rfl rfl (PRun.q (p_move rfl (by conv => lhs; whnf))) ?_
        refine RN.nil ?_
        refine ⟨(m + 1, rs ++ [⟨ys[m], .slice xq xn xc, bs⟩], v84), ⟨by omega, by rw [joinKs_take hm, hjr, hwl, List.map_append, hrs]; rfl, hv84, sm_all hone hx70, by show (rs ++ _).length ≤ m + 1; rw [List.length_append]; simp; omega⟩, (by show _ - (m + 1) < _ - m; omega), (LiveIs.cons rfl (LiveIs.cons rfl (LiveIs.cons rfl (LiveIs.cons rfl (LiveIs.cons rfl LiveIs.nil))))), ?_⟩
        refine (Ent.pull_drop (is := [2, 2, 1, 3, 2, 2, 2, 2, 2]) rfl).trans ?_
        refine (gr_back hj).trans ?_
        refine (Ent.pull_drop (is := [1, 1, 0, 0, 0, 0, 0, 0]) rfl).trans ?_
        refine (sm_push (s := ⟨ys[m], .slice xq xn xc, bs⟩)).trans ?_
        refine (Ent.pull_drop (is := [2, 0, 1, 1, 0, 0, 0]) rfl).trans ?_
        refine Ent.cons (Ent.of_eq ?_) (Ent.cons (Ent.refl _) (Ent.cons (vec_of_row (flat_length' Ky.len ys) hq1 hq2 hq3) (Ent.refl _)))
        simp [Sm.cells]
      ·
        obtain ⟨hwl, rfl⟩ := hy2 h73
        refine T.skip ?_
        refine hK24 _ _ ?_
        refine T.region (l := [0, 1]) rfl ?_
        refine RN.qq rfl rfl rfl rfl (PRun.q (by first | exact (p_addN (b := 1) rfl rfl rfl (by omega)) | exact (p_add rfl rfl rfl (by omega)))) ?_
        refine RN.qq rfl rfl rfl rfl (PRun.q (p_move rfl (by conv => lhs; whnf))) ?_
        refine RN.nil ?_
        refine ⟨(m + 1, rs, ov), ⟨by omega, by rw [joinKs_take hm, hjr, hwl, hrs]; simp, hov, hone, by show rs.length ≤ m + 1; omega⟩, (by show _ - (m + 1) < _ - m; omega), (LiveIs.cons rfl (LiveIs.cons rfl (LiveIs.cons rfl (LiveIs.cons rfl (LiveIs.cons rfl LiveIs.nil))))), ?_⟩
        refine (gr_back hj).trans ?_
        refine (Ent.pull_drop (is := [2, 2, 2, 2, 0, 1, 1]) rfl).trans ?_
        exact Ent.cons (Ent.refl _) (Ent.cons (Ent.refl _) (Ent.cons (vec_of_row (flat_length' Ky.len ys) hq1 hq2 hq3) (Ent.refl _)))
    ·
      have hm : m = ys.length := by omega
      subst hm
      rw [List.take_length] at hrs
      refine T.exit ?_
      refine Post.seq_x ?_
      refine Post.seq_x ?_
      refine Post.block_hit ?_
      refine hK19 _ _ ?_
      refine T.seq fun K28 hK28 => ?_
      refine T.region (l := [0, 1]) rfl ?_
      refine RN.qq rfl rfl rfl rfl (PRun.q (p_move rfl (by conv => lhs; whnf))) ?_
      refine RN.qq rfl rfl rfl rfl (PRun.q (p_assign rfl (by conv => lhs; whnf))) ?_
      refine RN.nil ?_
      refine hK28 _ _ ?_
      refine T.ret ?_
      refine bodyQ_ret [vec 51 4 ov rs.length ((rs.map Sm.cells).flatten), sep (rs.map Sm.own), A] (RetRun.tmp RetRun.nil) ⟨ys, rs, hks, hrs, hov, hone, rfl⟩ (Ent.pull_drop (is := [0, 0, 3, 3]) rfl)

end Go.Proofs.Yticfabhcfdmbjaa
