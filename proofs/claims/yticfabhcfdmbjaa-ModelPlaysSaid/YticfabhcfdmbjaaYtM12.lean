/-
  Walk of ModelPlays.
-/
import Derived.Test.YticfabhcfdmbjaaYtM11
namespace Go.Proofs.Yticfabhcfdmbjaa
open Go Go.Sl Go.Proofs
set_option maxRecDepth 20000
open Go.Mo
theorem ModelPlays_run (w0 : World) (sz : Nat) (at_ : Int) (q : Option Addr) (scap : Nat) (cs : List Cmd) (hs : 1 ≤ sz ∧ sz ≤ 64) (hl : cs.length ≤ 40) (hq : 0 < cs.length → ∃ b off, q = some ⟨b, off, none⟩ ∧ ∀ i (hi : i < cs.length), At w0 b (off + i * 4) cs[i].cells) (hd : ∀ c ∈ cs, c.data.length ≤ 140737488351232) : Ctr Try.prog 4 [intV sz, .slice q cs.length scap, .int .i64 at_] [old w0] (fun v Ps => v = .bool true ∧ Ps = [old w0]) := by
  refine Ctr.of_body Try.func4 rfl (by kernel_rfl) Try.ntmps4 rfl rfl (fun Fr => ?_)
  refine T.seq fun K1 hK1 => ?_
  refine T.region (l := [0]) rfl ?_
  refine RN.qq rfl rfl rfl rfl (PRun.q (p_assign rfl (by conv => lhs; whnf))) ?_
  refine RN.nil ?_
  refine hK1 _ _ ?_
  refine T.seq fun K2 hK2 => ?_
  refine T.seq fun K3 hK3 => ?_
  refine T.region (l := [0, 1]) rfl ?_
  refine RN.C [] rfl rfl rfl rfl (c_call rfl rfl) (awake_spec) rfl ?_
  rintro _ _ ⟨rfl, rfl⟩
  refine RN.qq rfl rfl rfl rfl (PRun.q (by first | exact (p_not_dec rfl rfl) | exact (p_not rfl rfl))) ?_
  refine RN.nil ?_
  refine hK3 _ _ ?_
  refine T.known 29 rfl (show _ = Value.bool false from rfl) ?_
  refine T.cond_f rfl ?_
  refine T.skip ?_
  refine hK2 _ _ ?_
  refine T.seq fun K4 hK4 => ?_
  refine T.region (l := [0, 1, 2, 3, 4, 5, 6]) rfl ?_
  refine RN.qq rfl rfl rfl rfl (PRun.q (p_move rfl (by conv => lhs; whnf))) ?_
  refine RN.C [] rfl rfl rfl rfl (c_call rfl rfl) (New_spec (sz : Int)) rfl ?_
  rintro v32 Ps32 hq32
  obtain ⟨a1, p1, cap1, ds1, rest1, rfl, hn1, hok1, hb1, hc1, rfl⟩ := NewQ_yes hq32 (by omega)
  rw [Int.toNat_natCast] at hb1
  have hl1 : ds1.length = sz := by omega
  refine RN.qq rfl rfl rfl rfl (PRun.q (p_move rfl (by conv => lhs; whnf))) ?_
  refine RN.qq rfl rfl rfl rfl (PRun.q (p_extract rfl rfl rfl)) ?_
  refine RN.qq rfl rfl rfl rfl (PRun.q (p_extract rfl rfl rfl)) ?_
  refine RN.qq rfl rfl rfl rfl (PRun.q (p_assign rfl (by conv => lhs; whnf))) ?_
  refine RN.qq rfl rfl rfl rfl (PRun.q (p_assign rfl (by conv => lhs; whnf))) ?_
  refine RN.nil ?_
  refine hK4 _ _ ?_
  refine T.seq fun K5 hK5 => ?_
  refine T.seq fun K6 hK6 => ?_
  refine T.region (l := [0, 1, 2, 3, 4, 5]) rfl ?_
  refine RN.qq rfl rfl rfl rfl (PRun.q (p_move rfl (by conv => lhs; whnf))) ?_
  refine RN.qq rfl rfl rfl rfl (PRun.q (p_lss rfl rfl rfl)) ?_
  refine RN.qq rfl rfl rfl rfl (PRun.q (p_move rfl (by conv => lhs; whnf))) ?_
  refine RN.known 37 rfl (show _ = Value.bool false from congrArg Value.bool (decide_eq_false (by omega))) ?_
  refine RN.qq rfl rfl rfl rfl (PRun.q (p_move rfl (by conv => lhs; whnf))) ?_
  refine RN.qq rfl rfl rfl rfl (PRun.q (p_gtr rfl rfl rfl)) ?_
  refine RN.qq rfl rfl rfl rfl (PRun.q (p_pick_f rfl rfl (by conv => lhs; whnf))) ?_
  refine RN.nil ?_
  refine hK6 _ _ ?_
  refine T.known 40 rfl (show _ = Value.bool false from congrArg Value.bool (decide_eq_false (by omega))) ?_
  refine T.cond_f rfl ?_
  refine T.skip ?_
  refine hK5 _ _ ?_
  refine T.seq fun K7 hK7 => ?_
  refine T.seq fun K8 hK8 => ?_
  refine T.region (l := [0, 1, 2, 3, 4, 5, 6, 7, 8, 9, 10, 11, 12, 13, 14]) rfl ?_
  refine RN.qq rfl rfl rfl rfl (PRun.q (p_move rfl (by conv => lhs; whnf))) ?_
  refine RN.qq rfl rfl rfl rfl (PRun.q (p_neq rfl rfl rfl)) ?_
  refine RN.qq rfl rfl rfl rfl (PRun.q (p_move rfl (by conv => lhs; whnf))) ?_
  refine RN.known 49 rfl (show _ = Value.bool false from rfl) ?_
  refine RN.qq rfl rfl rfl rfl (PRun.q (p_move rfl (by conv => lhs; whnf))) ?_
  refine RN.qq rfl rfl rfl rfl (PRun.q (p_ptreql_nil rfl rfl rfl Try.underlying23)) ?_
  refine RN.qq rfl rfl rfl rfl (PRun.q (p_pick_f rfl rfl (by conv => lhs; whnf))) ?_
  refine RN.qq rfl rfl rfl rfl (PRun.q (p_move rfl (by conv => lhs; whnf))) ?_
  refine RN.known 53 rfl (show _ = Value.bool false from rfl) ?_
  refine RN.qq rfl rfl rfl rfl (PRun.q (p_move rfl (by conv => lhs; whnf))) ?_
  refine RN.qq rfl rfl rfl rfl (PRun.q (p_len rfl Try.underlying31 rfl)) ?_
  refine RN.qq rfl rfl rfl rfl (PRun.q (p_gtr rfl rfl rfl)) ?_
  refine RN.qq rfl rfl rfl rfl (PRun.q (p_pick_f rfl rfl (by conv => lhs; whnf))) ?_
  refine RN.qq rfl rfl rfl rfl (PRun.q (p_move rfl (by conv => lhs; whnf))) ?_
  refine RN.known 58 rfl (show _ = Value.bool false from congrArg Value.bool (decide_eq_false (by omega))) ?_
  refine RN.qq rfl rfl rfl rfl (PRun.q (p_move rfl (by conv => lhs; whnf))) ?_
  refine RN.qq rfl rfl rfl rfl (PRun.q (p_gtr rfl rfl rfl)) ?_
  refine RN.qq rfl rfl rfl rfl (PRun.q (p_pick_f rfl rfl (by conv => lhs; whnf))) ?_
  refine RN.nil ?_
  refine hK8 _ _ ?_
  refine T.known 61 rfl (show _ = Value.bool false from congrArg Value.bool (decide_eq_false (by omega))) ?_
  refine T.cond_f rfl ?_
  refine T.skip ?_
  refine hK7 _ _ ?_
  refine T.seq fun K9 hK9 => ?_
  refine T.region (l := [0, 1, 2]) rfl ?_
  refine RN.qq rfl rfl rfl rfl (PRun.q (p_move rfl (by conv => lhs; whnf))) ?_
  refine RN.C [] rfl rfl rfl rfl (c_call rfl rfl) (RNew_spec sz (by omega)) rfl ?_
  rintro _ _ ⟨rfl, rfl⟩
  rw [← cat_z hb1]
  refine RN.qq rfl rfl rfl rfl (PRun.q (p_assign rfl (by conv => lhs; whnf))) ?_
  refine RN.nil ?_
  refine hK9 _ _ ?_
  refine T.seq fun K10 hK10 => ?_
  refine T.region (l := [0, 1, 2]) rfl ?_
  refine RN.qq rfl rfl rfl rfl (PRun.q (p_move rfl (by conv => lhs; whnf))) ?_
  refine RN.C [0, 0, 0] rfl rfl rfl rfl (c_call rfl rfl) (Copy_spec a1 p1 cap1 ds1 rest1 hok1 (by omega)) rfl ?_
  rintro v67 _ ⟨a2, p2, cap2, d2, rest2, rfl, hl2, hok2, hb2, hc2, rfl⟩
  refine RN.qq rfl rfl rfl rfl (PRun.q (p_assign rfl (by conv => lhs; whnf))) ?_
  refine RN.nil ?_
  refine hK10 _ _ ?_
  refine T.seq fun K11 hK11 => ?_
  refine T.region (l := [0, 1]) rfl ?_
  refine RN.qq rfl rfl rfl rfl (PRun.q (p_move rfl (by conv => lhs; whnf))) ?_
  refine RN.qq rfl rfl rfl rfl (PRun.q (p_assign rfl (by conv => lhs; whnf))) ?_
  refine RN.nil ?_
  refine hK11 _ _ ?_
  refine T.seq fun K12 hK12 => ?_
  refine T.seq fun K13 hK13 => ?_
  refine T.region (l := [0]) rfl ?_
  refine RN.qq rfl rfl rfl rfl (PRun.q (p_assign rfl (by conv => lhs; whnf))) ?_
  refine RN.nil ?_
  refine hK13 _ _ ?_
  refine T.block ?_
  refine T.loop (G := Nat × List Sec × Nat × Nat × Nat × List Sec × List Value) (fun ⟨i, ds, a2, p2, cap2, d2, rest2⟩ => i ≤ cs.length ∧ (∀ x ∈ ds, x.ok) ∧ ds.length = sz ∧ (∀ x ∈ d2, x.ok) ∧ d2.length = sz ∧ d2.length ≤ cap2) (fun ⟨i, ds, a2, p2, cap2, d2, rest2⟩ => [(0, intV sz), (1, .slice q cs.length scap), (2, .int .i64 at_), (7, ptr a1 0), (9, strV (cat ds)), (10, ptr a2 0), (11, strV (cat d2)), (12, intV i)]) (fun ⟨i, ds, a2, p2, cap2, d2, rest2⟩ => [row a1 75 [slc p1 0 ds.length cap1], row p1 49 (ds.map Sec.hdr ++ rest1), sep (ds.map (Sec.own 5)), row a2 75 [slc p2 0 d2.length cap2], row p2 49 (d2.map Sec.hdr ++ rest2), sep (d2.map (Sec.own 5)), old w0, Fr]) (fun ⟨i, ds, a2, p2, cap2, d2, rest2⟩ => cs.length - i) (0, ds1, a2, p2, cap2, d2, rest2) ⟨by omega, hok1, by omega, hok2, by omega, hc2⟩ (LiveIs.cons rfl (LiveIs.cons rfl (LiveIs.cons rfl (LiveIs.cons rfl (LiveIs.cons rfl (LiveIs.cons rfl (LiveIs.cons (congrArg strV (cat_of hb2)) (LiveIs.cons rfl LiveIs.nil)))))))) (Ent.pull_drop (is := [3, 3, 3, 0, 0, 0, 0, 0]) rfl) ?_
  rintro ⟨i, ds, a2, p2, cap2, d2, rest2⟩ e14 ⟨hik, hok, hlk, hok2, hl2, hc2⟩
  dsimp only
  refine T.seq fun K15 hK15 => ?_
  refine T.seq fun K16 hK16 => ?_
  refine T.region (l := [0, 1, 2, 3]) rfl ?_
  refine RN.qq rfl rfl rfl rfl (PRun.q (p_move rfl (by conv => lhs; whnf))) ?_
  refine RN.qq rfl rfl rfl rfl (PRun.q (p_move rfl (by conv => lhs; whnf))) ?_
  refine RN.qq rfl rfl rfl rfl (PRun.q (p_len rfl Try.underlying31 rfl)) ?_
  refine RN.qq rfl rfl rfl rfl (PRun.q (p_lss rfl rfl rfl)) ?_
  refine RN.nil ?_
  refine hK16 _ _ ?_
  first | refine T.cond_dec rfl (fun h72 => ?_) (fun h72 => ?_) | refine T.cond rfl (fun h72 => ?_) (fun h72 => ?_)
  ·
    have hi : i < cs.length := by omega
    obtain ⟨sb, so, rfl, hat⟩ := hq (by omega)
    refine T.skip ?_
    refine hK15 _ _ ?_
    refine T.seq fun K17 hK17 => ?_
    refine T.block ?_
    refine T.seq fun K18 hK18 => ?_
    refine T.region (l := [0, 1, 2, 3, 4, 5]) rfl ?_
    refine RN.qq rfl rfl rfl rfl (PRun.q (p_move rfl (by conv => lhs; whnf))) ?_
    refine RN.qq rfl rfl rfl rfl (PRun.q (p_move rfl (by conv => lhs; whnf))) ?_
    refine RN.qq rfl rfl rfl rfl (PRun.q (by first | exact (p_indexAddrN rfl Try.underlying31 ts_35 rfl rfl (by omega)) | exact (p_indexAddr rfl Try.underlying31 ts_35 rfl rfl (by omega)))) ?_
    refine RN.qq rfl rfl rfl rfl (QRun.ent ((Ent.pull_drop (is := [6]) rfl).trans (Ent.cons (old_cellsAt (hat i hi)) (Ent.refl _))) (q_loadC rfl ag_35 ts_35 rfl (i := 0) rfl rfl)) ?_
    refine RN.E rfl rfl rfl rfl (e_alloc rfl ti_35) ?_
    rintro _ _ ⟨b13, rfl, rfl⟩
    refine RN.EN rfl rfl rfl (by first | exact (e_storeA rfl ts_35 rfl rfl rfl (by simp [Cmd.cells, strV, Value.oneCell']) (i := 0) rfl (by simp)) | exact (e_storeA rfl ts_35 rfl rfl rfl (by simp [Cmd.cells, strV, Value.oneCell']) (i := 1) rfl (by simp)) | exact (e_storeA rfl ts_35 rfl rfl rfl (by simp [Cmd.cells, strV, Value.oneCell']) (i := 2) rfl (by simp)) | exact (e_storeA rfl ts_35 rfl rfl rfl (by simp [Cmd.cells, strV, Value.oneCell']) (i := 3) rfl (by simp)) | exact (e_storeA rfl ts_35 rfl rfl rfl (by simp [Cmd.cells, strV, Value.oneCell']) (i := 4) rfl (by simp))) ?_
    rintro _ _ ⟨rfl, rfl⟩
    refine RN.nil ?_
    refine hK18 _ _ ?_
    refine T.cut (G := Nat × Nat × Nat × List Sec × List Value) (fun ⟨a3, p3, cap3, d3, rest3⟩ => (∀ x ∈ d3, x.ok) ∧ d3.length = sz ∧ d3.length ≤ cap3) (fun ⟨a3, p3, cap3, d3, rest3⟩ => [(0, intV sz), (1, .slice (some ⟨sb, so, none⟩) cs.length scap), (2, .int .i64 at_), (7, ptr a1 0), (9, strV (cat ds)), (10, ptr a3 0), (11, strV (cat d3)), (12, intV i), (13, ptr b13 0)]) (fun ⟨a3, p3, cap3, d3, rest3⟩ => [row b13 35 cs[i].cells, row a1 75 [slc p1 0 ds.length cap1], row p1 49 (ds.map Sec.hdr ++ rest1), sep (ds.map (Sec.own 5)), row a3 75 [slc p3 0 d3.length cap3], row p3 49 (d3.map Sec.hdr ++ rest3), sep (d3.map (Sec.own 5)), old w0, Fr]) ?_ ?_
    ·
      refine T.seq fun K20 hK20 => ?_
      refine T.region (l := [0, 1, 2]) rfl ?_
      refine RN.qq rfl rfl rfl rfl (PRun.q (p_move rfl (by conv => lhs; whnf))) ?_
      refine RN.qq rfl rfl rfl rfl (PRun.q (p_move rfl (by conv => lhs; whnf))) ?_
      refine RN.qq rfl rfl rfl rfl (PRun.q (p_eql rfl rfl rfl)) ?_
      refine RN.nil ?_
      refine hK20 _ _ ?_
      first | refine T.cond_dec rfl (fun h81 => ?_) (fun h81 => ?_) | refine T.cond rfl (fun h81 => ?_) (fun h81 => ?_)
      ·
        refine T.seq fun K21 hK21 => ?_
        refine T.region (l := [0, 1, 2]) rfl ?_
        refine RN.qq rfl rfl rfl rfl (PRun.q (p_move rfl (by conv => lhs; whnf))) ?_
        refine RN.C [1, 1, 1] rfl rfl rfl rfl (c_call rfl rfl) (Copy_spec a1 p1 cap1 ds rest1 hok (by omega)) rfl ?_
        rintro v83 _ ⟨a4, p4, cap4, d4, rest4, rfl, hl4, hok4, hb4, hc4, rfl⟩
        refine RN.qq rfl rfl rfl rfl (PRun.q (p_assign rfl (by conv => lhs; whnf))) ?_
        refine RN.nil ?_
        refine hK21 _ _ ?_
        refine T.region (l := [0, 1]) rfl ?_
        refine RN.qq rfl rfl rfl rfl (PRun.q (p_move rfl (by conv => lhs; whnf))) ?_
        refine RN.qq rfl rfl rfl rfl (PRun.q (p_assign rfl (by conv => lhs; whnf))) ?_
        refine RN.nil ?_
        refine ⟨(a4, p4, cap4, d4, rest4), ⟨hok4, by omega, hc4⟩, (LiveIs.cons rfl (LiveIs.cons rfl (LiveIs.cons rfl (LiveIs.cons rfl (LiveIs.cons rfl (LiveIs.cons rfl (LiveIs.cons (congrArg strV (cat_of hb4)) (LiveIs.cons rfl (LiveIs.cons rfl LiveIs.nil))))))))), (Ent.pull_drop (is := [6, 3, 3, 3, 0, 0, 0, 3, 3]) rfl)⟩
      ·
        refine T.skip ?_
        refine ⟨(a2, p2, cap2, d2, rest2), ⟨hok2, by omega, hc2⟩, (LiveIs.cons rfl (LiveIs.cons rfl (LiveIs.cons rfl (LiveIs.cons rfl (LiveIs.cons rfl (LiveIs.cons rfl (LiveIs.cons rfl (LiveIs.cons rfl (LiveIs.cons rfl LiveIs.nil))))))))), (Ent.refl _)⟩
    ·
      rintro ⟨a3, p3, cap3, d3, rest3⟩ e19 ⟨hok3, hl3, hc3⟩
      dsimp only
      refine T.cut (G := List Sec) (fun d5 => (∀ x ∈ d5, x.ok) ∧ d5.length = sz) (fun d5 => [(0, intV sz), (1, .slice (some ⟨sb, so, none⟩) cs.length scap), (2, .int .i64 at_), (7, ptr a1 0), (9, strV (cat d5)), (10, ptr a3 0), (11, strV (cat d3)), (12, intV i), (13, ptr b13 0)]) (fun d5 => [row b13 35 cs[i].cells, row a1 75 [slc p1 0 d5.length cap1], row p1 49 (d5.map Sec.hdr ++ rest1), sep (d5.map (Sec.own 5)), row a3 75 [slc p3 0 d3.length cap3], row p3 49 (d3.map Sec.hdr ++ rest3), sep (d3.map (Sec.own 5)), old w0, Fr]) ?_ ?_
      ·
        refine T.seq fun K23 hK23 => ?_
        refine T.region (l := [0, 1]) rfl ?_
        refine RN.qq rfl rfl rfl rfl (PRun.q (p_fieldAddr rfl fa_35_0 rfl)) ?_
        refine RN.qq rfl rfl rfl rfl (by first | exact (q_load rfl sc_3 rfl (i := 0) rfl rfl) | exact (q_load rfl sc_3 rfl (i := 1) rfl rfl) | exact (q_load rfl sc_3 rfl (i := 2) rfl rfl) | exact (q_load rfl sc_3 rfl (i := 3) rfl rfl) | exact (q_load rfl sc_3 rfl (i := 4) rfl rfl)) ?_
        refine RN.nil ?_
        refine hK23 _ _ ?_
        refine T.block ?_
        refine T.seq fun K24 hK24 => ?_
        refine T.region (l := [0, 1]) rfl ?_
        refine RN.qq rfl rfl rfl rfl (PRun.q (p_eql rfl rfl rfl)) ?_
        refine RN.qq rfl rfl rfl rfl (PRun.q (p_assign rfl (by conv => lhs; whnf))) ?_
        refine RN.nil ?_
        refine hK24 _ _ ?_
        first | refine T.cond_dec rfl (fun h87 => ?_) (fun h87 => ?_) | refine T.cond rfl (fun h87 => ?_) (fun h87 => ?_)
        ·
          refine T.seq fun K25 hK25 => ?_
          refine T.region (l := [0, 1, 2, 3, 4, 5, 6, 7, 8, 9, 10, 11, 12]) rfl ?_
          refine RN.qq rfl rfl rfl rfl (PRun.q (p_move rfl (by conv => lhs; whnf))) ?_
          refine RN.qq rfl rfl rfl rfl (PRun.q (p_fieldAddr rfl fa_35_1 rfl)) ?_
          refine RN.qq rfl rfl rfl rfl (by first | exact (q_load rfl sc_3 rfl (i := 0) rfl rfl) | exact (q_load rfl sc_3 rfl (i := 1) rfl rfl) | exact (q_load rfl sc_3 rfl (i := 2) rfl rfl) | exact (q_load rfl sc_3 rfl (i := 3) rfl rfl) | exact (q_load rfl sc_3 rfl (i := 4) rfl rfl)) ?_
          refine RN.qq rfl rfl rfl rfl (PRun.q (p_fieldAddr rfl fa_35_2 rfl)) ?_
          refine RN.qq rfl rfl rfl rfl (by first | exact (q_load rfl sc_3 rfl (i := 0) rfl rfl) | exact (q_load rfl sc_3 rfl (i := 1) rfl rfl) | exact (q_load rfl sc_3 rfl (i := 2) rfl rfl) | exact (q_load rfl sc_3 rfl (i := 3) rfl rfl) | exact (q_load rfl sc_3 rfl (i := 4) rfl rfl)) ?_
          refine RN.qq rfl rfl rfl rfl (PRun.q (p_fieldAddr rfl fa_35_3 rfl)) ?_
          refine RN.qq rfl rfl rfl rfl (by first | exact (q_load rfl sc_9 rfl (i := 0) rfl rfl) | exact (q_load rfl sc_9 rfl (i := 1) rfl rfl) | exact (q_load rfl sc_9 rfl (i := 2) rfl rfl) | exact (q_load rfl sc_9 rfl (i := 3) rfl rfl) | exact (q_load rfl sc_9 rfl (i := 4) rfl rfl)) ?_
          refine RN.C [] rfl rfl rfl rfl (c_call rfl rfl) (RWrite_spec (cat ds) cs[i].lba cs[i].n cs[i].data (by rw [cat_length hok]; omega) (hd _ (List.getElem_mem hi))) rfl ?_
          rintro _ _ ⟨rfl, rfl⟩
          rw [cat_cap hok]
          refine RN.qq rfl rfl rfl rfl (PRun.q (p_move rfl (by conv => lhs; whnf))) ?_
          refine RN.qq rfl rfl rfl rfl (PRun.q (p_extract rfl rfl rfl)) ?_
          refine RN.qq rfl rfl rfl rfl (PRun.q (p_extract rfl rfl rfl)) ?_
          refine RN.qq rfl rfl rfl rfl (PRun.q (p_assign rfl (by conv => lhs; whnf))) ?_
          refine RN.qq rfl rfl rfl rfl (PRun.q (p_assign rfl (by conv => lhs; whnf))) ?_
          refine RN.nil ?_
          refine hK25 _ _ ?_
          refine T.seq fun K26 hK26 => ?_
          refine T.region (l := [0, 1, 2, 3, 4, 5, 6, 7, 8]) rfl ?_
          refine RN.qq rfl rfl rfl rfl (PRun.q (p_move rfl (by conv => lhs; whnf))) ?_
          refine RN.qq rfl rfl rfl rfl (PRun.q (p_fieldAddr rfl fa_35_1 rfl)) ?_
          refine RN.qq rfl rfl rfl rfl (by first | exact (q_load rfl sc_3 rfl (i := 0) rfl rfl) | exact (q_load rfl sc_3 rfl (i := 1) rfl rfl) | exact (q_load rfl sc_3 rfl (i := 2) rfl rfl) | exact (q_load rfl sc_3 rfl (i := 3) rfl rfl) | exact (q_load rfl sc_3 rfl (i := 4) rfl rfl)) ?_
          refine RN.qq rfl rfl rfl rfl (PRun.q (p_fieldAddr rfl fa_35_2 rfl)) ?_
          refine RN.qq rfl rfl rfl rfl (by first | exact (q_load rfl sc_3 rfl (i := 0) rfl rfl) | exact (q_load rfl sc_3 rfl (i := 1) rfl rfl) | exact (q_load rfl sc_3 rfl (i := 2) rfl rfl) | exact (q_load rfl sc_3 rfl (i := 3) rfl rfl) | exact (q_load rfl sc_3 rfl (i := 4) rfl rfl)) ?_
          refine RN.qq rfl rfl rfl rfl (PRun.q (p_fieldAddr rfl fa_35_3 rfl)) ?_
          refine RN.qq rfl rfl rfl rfl (by first | exact (q_load rfl sc_9 rfl (i := 0) rfl rfl) | exact (q_load rfl sc_9 rfl (i := 1) rfl rfl) | exact (q_load rfl sc_9 rfl (i := 2) rfl rfl) | exact (q_load rfl sc_9 rfl (i := 3) rfl rfl) | exact (q_load rfl sc_9 rfl (i := 4) rfl rfl)) ?_
          refine RN.C [1, 1, 1] rfl rfl rfl rfl (c_call rfl rfl) (Write_spec a1 p1 cap1 ds rest1 cs[i].lba cs[i].n cs[i].data hok (by omega)) rfl ?_
          rintro _ _ ⟨rfl, d5, hok5, hb5, rfl⟩
          obtain ⟨hf5, hl5⟩ := write_law hok hb5
          refine RN.qq rfl rfl rfl rfl (PRun.q (p_assign rfl (by conv => lhs; whnf))) ?_
          refine RN.nil ?_
          refine hK26 _ _ ?_
          refine T.seq fun K27 hK27 => ?_
          refine T.seq fun K28 hK28 => ?_
          refine T.region (l := [0, 1, 2, 3, 4, 5, 6, 7, 8, 9, 10, 11, 12]) rfl ?_
          refine RN.qq rfl rfl rfl rfl (PRun.q (p_move rfl (by conv => lhs; whnf))) ?_
          refine RN.qq rfl rfl rfl rfl (PRun.q (p_move rfl (by conv => lhs; whnf))) ?_
          first | refine RN.split_dec 109 rfl (fun h109 => ?_) (fun h109 => ?_) | refine RN.split 109 rfl (fun h109 => ?_) (fun h109 => ?_)
          ·
            refine RN.qq rfl rfl rfl rfl (PRun.q (p_move rfl (by conv => lhs; whnf))) ?_
            refine RN.qq rfl rfl rfl rfl (PRun.q (p_neq rfl rfl rfl)) ?_
            refine RN.qq rfl rfl rfl rfl (PRun.q (p_pick_t rfl rfl (by conv => lhs; whnf))) ?_
            refine RN.qq rfl rfl rfl rfl (PRun.q (p_move rfl (by conv => lhs; whnf))) ?_
            refine RN.known 113 rfl (show _ = Value.bool false from congrArg Value.bool (decide_eq_false (by rw [if_pos h109]; decide))) ?_
            refine RN.qq rfl rfl rfl rfl (PRun.q (p_move rfl (by conv => lhs; whnf))) ?_
            refine RN.qq rfl rfl rfl rfl (PRun.q (by first | exact (p_not_dec rfl rfl) | exact (p_not rfl rfl))) ?_
            refine RN.qq rfl rfl rfl rfl (PRun.q (p_move rfl (by conv => lhs; whnf))) ?_
            refine RN.known 116 rfl (show _ = Value.bool false from congrArg Value.bool (decide_eq_false (not_not_intro h109))) ?_
            refine RN.O rfl rfl rfl rfl ?_
            refine RN.O rfl rfl rfl rfl ?_
            refine RN.qq rfl rfl rfl rfl (PRun.q (p_pick_f rfl rfl (by conv => lhs; whnf))) ?_
            refine RN.qq rfl rfl rfl rfl (PRun.q (p_pick_f rfl rfl (by conv => lhs; whnf))) ?_
            refine RN.nil ?_
            refine hK28 _ _ ?_
            refine T.cond_f rfl ?_
            refine T.skip ?_
            refine hK27 _ _ ?_
            refine T.region (l := [0, 1]) rfl ?_
            refine RN.qq rfl rfl rfl rfl (PRun.q (p_move rfl (by conv => lhs; whnf))) ?_
            refine RN.qq rfl rfl rfl rfl (PRun.q (p_assign rfl (by conv => lhs; whnf))) ?_
            refine RN.nil ?_
            refine ⟨d5, ⟨hok5, by omega⟩, (LiveIs.cons rfl (LiveIs.cons rfl (LiveIs.cons rfl (LiveIs.cons rfl (LiveIs.cons (congrArg strV hf5) (LiveIs.cons rfl (LiveIs.cons rfl (LiveIs.cons rfl (LiveIs.cons rfl LiveIs.nil))))))))), (Ent.pull_drop (is := [3, 0, 0, 0, 0, 0, 0, 0, 0]) rfl)⟩
          ·
            refine RN.O rfl rfl rfl rfl ?_
            refine RN.O rfl rfl rfl rfl ?_
            refine RN.qq rfl rfl rfl rfl (PRun.q (p_pick_f rfl rfl (by conv => lhs; whnf))) ?_
            refine RN.qq rfl rfl rfl rfl (PRun.q (p_move rfl (by conv => lhs; whnf))) ?_
            refine RN.qq rfl rfl rfl rfl (PRun.q (p_move rfl (by conv => lhs; whnf))) ?_
            refine RN.qq rfl rfl rfl rfl (PRun.q (by first | exact (p_not_dec rfl rfl) | exact (p_not rfl rfl))) ?_
            refine RN.qq rfl rfl rfl rfl (PRun.q (p_move rfl (by conv => lhs; whnf))) ?_
            refine RN.known 116 rfl (show _ = Value.bool true from congrArg Value.bool (decide_eq_true h109)) ?_
            refine RN.qq rfl rfl rfl rfl (PRun.q (p_move rfl (by conv => lhs; whnf))) ?_
            refine RN.qq rfl rfl rfl rfl (PRun.q (p_neq rfl rfl rfl)) ?_
            refine RN.qq rfl rfl rfl rfl (PRun.q (p_pick_t rfl rfl (by conv => lhs; whnf))) ?_
            refine RN.qq rfl rfl rfl rfl (PRun.q (p_pick_f rfl rfl (by conv => lhs; whnf))) ?_
            refine RN.nil ?_
            refine hK28 _ _ ?_
            refine T.known 120 rfl (show _ = Value.bool false from congrArg Value.bool (decide_eq_false (by rw [if_neg h109]; decide))) ?_
            refine T.cond_f rfl ?_
            refine T.skip ?_
            refine hK27 _ _ ?_
            refine T.region (l := [0, 1]) rfl ?_
            refine RN.qq rfl rfl rfl rfl (PRun.q (p_move rfl (by conv => lhs; whnf))) ?_
            refine RN.qq rfl rfl rfl rfl (PRun.q (p_assign rfl (by conv => lhs; whnf))) ?_
            refine RN.nil ?_
            refine ⟨d5, ⟨hok5, by omega⟩, (LiveIs.cons rfl (LiveIs.cons rfl (LiveIs.cons rfl (LiveIs.cons rfl (LiveIs.cons (congrArg strV hf5) (LiveIs.cons rfl (LiveIs.cons rfl (LiveIs.cons rfl (LiveIs.cons rfl LiveIs.nil))))))))), (Ent.pull_drop (is := [3, 0, 0, 0, 0, 0, 0, 0, 0]) rfl)⟩
        ·
          refine T.seq fun K29 hK29 => ?_
          refine T.region (l := [0, 1]) rfl ?_
          refine RN.qq rfl rfl rfl rfl (PRun.q (p_eql rfl rfl rfl)) ?_
          refine RN.qq rfl rfl rfl rfl (PRun.q (p_assign rfl (by conv => lhs; whnf))) ?_
          refine RN.nil ?_
          refine hK29 _ _ ?_
          first | refine T.cond_dec rfl (fun h122 => ?_) (fun h122 => ?_) | refine T.cond rfl (fun h122 => ?_) (fun h122 => ?_)
          ·
            refine T.seq fun K30 hK30 => ?_
            refine T.region (l := [0, 1, 2, 3, 4, 5, 6, 7, 8, 9, 10]) rfl ?_
            refine RN.qq rfl rfl rfl rfl (PRun.q (p_move rfl (by conv => lhs; whnf))) ?_
            refine RN.qq rfl rfl rfl rfl (PRun.q (p_fieldAddr rfl fa_35_1 rfl)) ?_
            refine RN.qq rfl rfl rfl rfl (by first | exact (q_load rfl sc_3 rfl (i := 0) rfl rfl) | exact (q_load rfl sc_3 rfl (i := 1) rfl rfl) | exact (q_load rfl sc_3 rfl (i := 2) rfl rfl) | exact (q_load rfl sc_3 rfl (i := 3) rfl rfl) | exact (q_load rfl sc_3 rfl (i := 4) rfl rfl)) ?_
            refine RN.qq rfl rfl rfl rfl (PRun.q (p_fieldAddr rfl fa_35_2 rfl)) ?_
            refine RN.qq rfl rfl rfl rfl (by first | exact (q_load rfl sc_3 rfl (i := 0) rfl rfl) | exact (q_load rfl sc_3 rfl (i := 1) rfl rfl) | exact (q_load rfl sc_3 rfl (i := 2) rfl rfl) | exact (q_load rfl sc_3 rfl (i := 3) rfl rfl) | exact (q_load rfl sc_3 rfl (i := 4) rfl rfl)) ?_
            refine RN.C [] rfl rfl rfl rfl (c_call rfl rfl) (RWrite_spec (cat ds) cs[i].lba cs[i].n [] (by rw [cat_length hok]; omega) (by simp)) rfl ?_
            rintro _ _ ⟨rfl, rfl⟩
            rw [cat_cap hok]
            refine RN.qq rfl rfl rfl rfl (PRun.q (p_move rfl (by conv => lhs; whnf))) ?_
            refine RN.qq rfl rfl rfl rfl (PRun.q (p_extract rfl rfl rfl)) ?_
            refine RN.qq rfl rfl rfl rfl (PRun.q (p_extract rfl rfl rfl)) ?_
            refine RN.qq rfl rfl rfl rfl (PRun.q (p_assign rfl (by conv => lhs; whnf))) ?_
            refine RN.qq rfl rfl rfl rfl (PRun.q (p_assign rfl (by conv => lhs; whnf))) ?_
            refine RN.nil ?_
            refine hK30 _ _ ?_
            refine T.seq fun K31 hK31 => ?_
            refine T.region (l := [0, 1, 2, 3, 4, 5, 6]) rfl ?_
            refine RN.qq rfl rfl rfl rfl (PRun.q (p_move rfl (by conv => lhs; whnf))) ?_
            refine RN.qq rfl rfl rfl rfl (PRun.q (p_fieldAddr rfl fa_35_1 rfl)) ?_
            refine RN.qq rfl rfl rfl rfl (by first | exact (q_load rfl sc_3 rfl (i := 0) rfl rfl) | exact (q_load rfl sc_3 rfl (i := 1) rfl rfl) | exact (q_load rfl sc_3 rfl (i := 2) rfl rfl) | exact (q_load rfl sc_3 rfl (i := 3) rfl rfl) | exact (q_load rfl sc_3 rfl (i := 4) rfl rfl)) ?_
            refine RN.qq rfl rfl rfl rfl (PRun.q (p_fieldAddr rfl fa_35_2 rfl)) ?_
            refine RN.qq rfl rfl rfl rfl (by first | exact (q_load rfl sc_3 rfl (i := 0) rfl rfl) | exact (q_load rfl sc_3 rfl (i := 1) rfl rfl) | exact (q_load rfl sc_3 rfl (i := 2) rfl rfl) | exact (q_load rfl sc_3 rfl (i := 3) rfl rfl) | exact (q_load rfl sc_3 rfl (i := 4) rfl rfl)) ?_
            refine RN.C [1, 1, 1] rfl rfl rfl rfl (c_call rfl rfl) (Trim_spec a1 p1 cap1 ds rest1 cs[i].lba cs[i].n hok (by omega)) rfl ?_
            rintro _ _ ⟨rfl, d5, hok5, hb5, rfl⟩
            obtain ⟨hf5, hl5⟩ := write_law hok hb5
            refine RN.qq rfl rfl rfl rfl (PRun.q (p_assign rfl (by conv => lhs; whnf))) ?_
            refine RN.nil ?_
            refine hK31 _ _ ?_
            refine T.seq fun K32 hK32 => ?_
            refine T.seq fun K33 hK33 => ?_
            refine T.region (l := [0, 1, 2, 3, 4, 5, 6, 7, 8, 9, 10, 11, 12]) rfl ?_
            refine RN.qq rfl rfl rfl rfl (PRun.q (p_move rfl (by conv => lhs; whnf))) ?_
            refine RN.qq rfl rfl rfl rfl (PRun.q (p_move rfl (by conv => lhs; whnf))) ?_
            first | refine RN.split_dec 140 rfl (fun h140 => ?_) (fun h140 => ?_) | refine RN.split 140 rfl (fun h140 => ?_) (fun h140 => ?_)
            ·
              refine RN.qq rfl rfl rfl rfl (PRun.q (p_move rfl (by conv => lhs; whnf))) ?_
              refine RN.qq rfl rfl rfl rfl (PRun.q (p_neq rfl rfl rfl)) ?_
              refine RN.qq rfl rfl rfl rfl (PRun.q (p_pick_t rfl rfl (by conv => lhs; whnf))) ?_
              refine RN.qq rfl rfl rfl rfl (PRun.q (p_move rfl (by conv => lhs; whnf))) ?_
              refine RN.known 144 rfl (show _ = Value.bool false from congrArg Value.bool (decide_eq_false (by rw [if_pos h140]; decide))) ?_
              refine RN.qq rfl rfl rfl rfl (PRun.q (p_move rfl (by conv => lhs; whnf))) ?_
              refine RN.qq rfl rfl rfl rfl (PRun.q (by first | exact (p_not_dec rfl rfl) | exact (p_not rfl rfl))) ?_
              refine RN.qq rfl rfl rfl rfl (PRun.q (p_move rfl (by conv => lhs; whnf))) ?_
              refine RN.known 147 rfl (show _ = Value.bool false from congrArg Value.bool (decide_eq_false (not_not_intro h140))) ?_
              refine RN.O rfl rfl rfl rfl ?_
              refine RN.O rfl rfl rfl rfl ?_
              refine RN.qq rfl rfl rfl rfl (PRun.q (p_pick_f rfl rfl (by conv => lhs; whnf))) ?_
              refine RN.qq rfl rfl rfl rfl (PRun.q (p_pick_f rfl rfl (by conv => lhs; whnf))) ?_
              refine RN.nil ?_
              refine hK33 _ _ ?_
              refine T.cond_f rfl ?_
              refine T.skip ?_
              refine hK32 _ _ ?_
              refine T.region (l := [0, 1]) rfl ?_
              refine RN.qq rfl rfl rfl rfl (PRun.q (p_move rfl (by conv => lhs; whnf))) ?_
              refine RN.qq rfl rfl rfl rfl (PRun.q (p_assign rfl (by conv => lhs; whnf))) ?_
              refine RN.nil ?_
              refine ⟨d5, ⟨hok5, by omega⟩, (LiveIs.cons rfl (LiveIs.cons rfl (LiveIs.cons rfl (LiveIs.cons rfl (LiveIs.cons (congrArg strV hf5) (LiveIs.cons rfl (LiveIs.cons rfl (LiveIs.cons rfl (LiveIs.cons rfl LiveIs.nil))))))))), (Ent.pull_drop (is := [3, 0, 0, 0, 0, 0, 0, 0, 0]) rfl)⟩
            ·
              refine RN.O rfl rfl rfl rfl ?_
              refine RN.O rfl rfl rfl rfl ?_
              refine RN.qq rfl rfl rfl rfl (PRun.q (p_pick_f rfl rfl (by conv => lhs; whnf))) ?_
              refine RN.qq rfl rfl rfl rfl (PRun.q (p_move rfl (by conv => lhs; whnf))) ?_
              refine RN.qq rfl rfl rfl rfl (PRun.q (p_move rfl (by conv => lhs; whnf))) ?_
              refine RN.qq rfl rfl rfl rfl (PRun.q (by first | exact (p_not_dec rfl rfl) | exact (p_not rfl rfl))) ?_
              refine RN.qq rfl rfl rfl rfl (PRun.q (p_move rfl (by conv => lhs; whnf))) ?_
              refine RN.known 147 rfl (show _ = Value.bool true from congrArg Value.bool (decide_eq_true h140)) ?_
              refine RN.qq rfl rfl rfl rfl (PRun.q (p_move rfl (by conv => lhs; whnf))) ?_
              refine RN.qq rfl rfl rfl rfl (PRun.q (p_neq rfl rfl rfl)) ?_
              refine RN.qq rfl rfl rfl rfl (PRun.q (p_pick_t rfl rfl (by conv => lhs; whnf))) ?_
              refine RN.qq rfl rfl rfl rfl (PRun.q (p_pick_f rfl rfl (by conv => lhs; whnf))) ?_
              refine RN.nil ?_
              refine hK33 _ _ ?_
              refine T.known 151 rfl (show _ = Value.bool false from congrArg Value.bool (decide_eq_false (by rw [if_neg h140]; decide))) ?_
              refine T.cond_f rfl ?_
              refine T.skip ?_
              refine hK32 _ _ ?_
              refine T.region (l := [0, 1]) rfl ?_
              refine RN.qq rfl rfl rfl rfl (PRun.q (p_move rfl (by conv => lhs; whnf))) ?_
              refine RN.qq rfl rfl rfl rfl (PRun.q (p_assign rfl (by conv => lhs; whnf))) ?_
              refine RN.nil ?_
              refine ⟨d5, ⟨hok5, by omega⟩, (LiveIs.cons rfl (LiveIs.cons rfl (LiveIs.cons rfl (LiveIs.cons rfl (LiveIs.cons (congrArg strV hf5) (LiveIs.cons rfl (LiveIs.cons rfl (LiveIs.cons rfl (LiveIs.cons rfl LiveIs.nil))))))))), (Ent.pull_drop (is := [3, 0, 0, 0, 0, 0, 0, 0, 0]) rfl)⟩
          ·
            refine T.skip ?_
            refine ⟨ds, ⟨hok, by omega⟩, (LiveIs.cons rfl (LiveIs.cons rfl (LiveIs.cons rfl (LiveIs.cons rfl (LiveIs.cons rfl (LiveIs.cons rfl (LiveIs.cons rfl (LiveIs.cons rfl (LiveIs.cons rfl LiveIs.nil))))))))), (Ent.refl _)⟩
      ·
        rintro d5 e22 ⟨hok5, hl5⟩
        refine T.seq fun K34 hK34 => ?_
        refine T.region (l := [0, 1, 2, 3, 4, 5, 6, 7, 8, 9, 10]) rfl ?_
        refine RN.qq rfl rfl rfl rfl (PRun.q (p_move rfl (by conv => lhs; whnf))) ?_
        refine RN.qq rfl rfl rfl rfl (PRun.q (p_fieldAddr rfl fa_35_1 rfl)) ?_
        refine RN.qq rfl rfl rfl rfl (by first | exact (q_load rfl sc_3 rfl (i := 0) rfl rfl) | exact (q_load rfl sc_3 rfl (i := 1) rfl rfl) | exact (q_load rfl sc_3 rfl (i := 2) rfl rfl) | exact (q_load rfl sc_3 rfl (i := 3) rfl rfl) | exact (q_load rfl sc_3 rfl (i := 4) rfl rfl)) ?_
        refine RN.qq rfl rfl rfl rfl (PRun.q (p_fieldAddr rfl fa_35_2 rfl)) ?_
        refine RN.qq rfl rfl rfl rfl (by first | exact (q_load rfl sc_3 rfl (i := 0) rfl rfl) | exact (q_load rfl sc_3 rfl (i := 1) rfl rfl) | exact (q_load rfl sc_3 rfl (i := 2) rfl rfl) | exact (q_load rfl sc_3 rfl (i := 3) rfl rfl) | exact (q_load rfl sc_3 rfl (i := 4) rfl rfl)) ?_
        refine RN.C [1, 1, 1] rfl rfl rfl rfl (c_call rfl rfl) (Read_spec a1 p1 cap1 d5 rest1 cs[i].lba cs[i].n hok5 (by omega) (by omega)) rfl ?_
        rintro _ _ ⟨rfl, rfl⟩
        refine RN.qq rfl rfl rfl rfl (PRun.q (p_move rfl (by conv => lhs; whnf))) ?_
        refine RN.qq rfl rfl rfl rfl (PRun.q (p_extract rfl rfl rfl)) ?_
        refine RN.qq rfl rfl rfl rfl (PRun.q (p_extract rfl rfl rfl)) ?_
        refine RN.qq rfl rfl rfl rfl (PRun.q (p_assign rfl (by conv => lhs; whnf))) ?_
        refine RN.qq rfl rfl rfl rfl (PRun.q (p_assign rfl (by conv => lhs; whnf))) ?_
        refine RN.nil ?_
        refine hK34 _ _ ?_
        refine T.seq fun K35 hK35 => ?_
        refine T.region (l := [0, 1, 2, 3, 4, 5, 6, 7, 8, 9, 10]) rfl ?_
        refine RN.qq rfl rfl rfl rfl (PRun.q (p_move rfl (by conv => lhs; whnf))) ?_
        refine RN.qq rfl rfl rfl rfl (PRun.q (p_fieldAddr rfl fa_35_1 rfl)) ?_
        refine RN.qq rfl rfl rfl rfl (by first | exact (q_load rfl sc_3 rfl (i := 0) rfl rfl) | exact (q_load rfl sc_3 rfl (i := 1) rfl rfl) | exact (q_load rfl sc_3 rfl (i := 2) rfl rfl) | exact (q_load rfl sc_3 rfl (i := 3) rfl rfl) | exact (q_load rfl sc_3 rfl (i := 4) rfl rfl)) ?_
        refine RN.qq rfl rfl rfl rfl (PRun.q (p_fieldAddr rfl fa_35_2 rfl)) ?_
        refine RN.qq rfl rfl rfl rfl (by first | exact (q_load rfl sc_3 rfl (i := 0) rfl rfl) | exact (q_load rfl sc_3 rfl (i := 1) rfl rfl) | exact (q_load rfl sc_3 rfl (i := 2) rfl rfl) | exact (q_load rfl sc_3 rfl (i := 3) rfl rfl) | exact (q_load rfl sc_3 rfl (i := 4) rfl rfl)) ?_
        refine RN.C [] rfl rfl rfl rfl (c_call rfl rfl) (RRead_spec (cat d5) cs[i].lba cs[i].n (by rw [cat_length hok5]; omega)) rfl ?_
        rintro _ _ ⟨rfl, rfl⟩
        rw [cat_cap hok5, read_flat hok5]
        refine RN.qq rfl rfl rfl rfl (PRun.q (p_move rfl (by conv => lhs; whnf))) ?_
        refine RN.qq rfl rfl rfl rfl (PRun.q (p_extract rfl rfl rfl)) ?_
        refine RN.qq rfl rfl rfl rfl (PRun.q (p_extract rfl rfl rfl)) ?_
        refine RN.qq rfl rfl rfl rfl (PRun.q (p_assign rfl (by conv => lhs; whnf))) ?_
        refine RN.qq rfl rfl rfl rfl (PRun.q (p_assign rfl (by conv => lhs; whnf))) ?_
        refine RN.nil ?_
        refine hK35 _ _ ?_
        refine T.seq fun K36 hK36 => ?_
        refine T.region (l := [0, 1, 2, 3, 4, 5, 6, 7, 8, 9, 10, 11, 12, 13, 14, 15, 16, 17, 18, 19, 20, 21, 22, 23, 24, 25, 26, 27, 28, 29, 30, 31, 32, 33]) rfl ?_
        refine RN.qq rfl rfl rfl rfl (PRun.q (p_move rfl (by conv => lhs; whnf))) ?_
        refine RN.qq rfl rfl rfl rfl (PRun.q (p_move rfl (by conv => lhs; whnf))) ?_
        first | refine RN.split_dec 172 rfl (fun h172 => ?_) (fun h172 => ?_) | refine RN.split 172 rfl (fun h172 => ?_) (fun h172 => ?_)
        ·
          refine RN.qq rfl rfl rfl rfl (PRun.q (p_move rfl (by conv => lhs; whnf))) ?_
          refine RN.qq rfl rfl rfl rfl (PRun.q (p_neq rfl rfl rfl)) ?_
          refine RN.qq rfl rfl rfl rfl (PRun.q (p_move rfl (by conv => lhs; whnf))) ?_
          refine RN.known 175 rfl (show _ = Value.bool false from congrArg Value.bool (decide_eq_false (by rw [if_pos h172]; decide))) ?_
          refine RN.qq rfl rfl rfl rfl (PRun.q (p_move rfl (by conv => lhs; whnf))) ?_
          refine RN.qq rfl rfl rfl rfl (PRun.q (p_move rfl (by conv => lhs; whnf))) ?_
          refine RN.qq rfl rfl rfl rfl (PRun.q (p_sneq rfl rfl rfl)) ?_
          refine RN.qq rfl rfl rfl rfl (PRun.q (p_pick_f rfl rfl (by conv => lhs; whnf))) ?_
          refine RN.qq rfl rfl rfl rfl (PRun.q (p_pick_t rfl rfl (by conv => lhs; whnf))) ?_
          refine RN.qq rfl rfl rfl rfl (PRun.q (p_move rfl (by conv => lhs; whnf))) ?_
          refine RN.known 181 rfl (show _ = Value.bool false from congrArg Value.bool (decide_eq_false (not_not_intro rfl))) ?_
          refine RN.qq rfl rfl rfl rfl (PRun.q (p_move rfl (by conv => lhs; whnf))) ?_
          refine RN.qq rfl rfl rfl rfl (PRun.q (by first | exact (p_not_dec rfl rfl) | exact (p_not rfl rfl))) ?_
          refine RN.qq rfl rfl rfl rfl (PRun.q (p_move rfl (by conv => lhs; whnf))) ?_
          refine RN.known 184 rfl (show _ = Value.bool false from congrArg Value.bool (decide_eq_false (not_not_intro h172))) ?_
          refine RN.O rfl rfl rfl rfl ?_
          refine RN.O rfl rfl rfl rfl ?_
          refine RN.O rfl rfl rfl rfl ?_
          refine RN.O rfl rfl rfl rfl ?_
          refine RN.O rfl rfl rfl rfl ?_
          refine RN.O rfl rfl rfl rfl ?_
          refine RN.qq rfl rfl rfl rfl (PRun.q (p_pick_f rfl rfl (by conv => lhs; whnf))) ?_
          refine RN.qq rfl rfl rfl rfl (PRun.q (p_pick_f rfl rfl (by conv => lhs; whnf))) ?_
          refine RN.qq rfl rfl rfl rfl (PRun.q (p_move rfl (by conv => lhs; whnf))) ?_
          refine RN.qq rfl rfl rfl rfl (PRun.q (p_move rfl (by conv => lhs; whnf))) ?_
          refine RN.C [0, 0, 0] rfl rfl rfl rfl (c_call rfl rfl) (Content_spec a1 p1 cap1 d5 rest1 hok5 (by omega) (by omega)) rfl ?_
          rintro _ _ ⟨rfl, rfl⟩
          refine RN.qq rfl rfl rfl rfl (PRun.q (p_move rfl (by conv => lhs; whnf))) ?_
          refine RN.qq rfl rfl rfl rfl (PRun.q (p_sneq rfl rfl rfl)) ?_
          refine RN.qq rfl rfl rfl rfl (PRun.q (p_pick_f rfl rfl (by conv => lhs; whnf))) ?_
          refine RN.qq rfl rfl rfl rfl (PRun.q (p_move rfl (by conv => lhs; whnf))) ?_
          refine RN.known 199 rfl (show _ = Value.bool false from congrArg Value.bool (decide_eq_false (not_not_intro rfl))) ?_
          refine RN.qq rfl rfl rfl rfl (PRun.q (p_move rfl (by conv => lhs; whnf))) ?_
          refine RN.C [4, 4, 4] rfl rfl rfl rfl (c_call rfl rfl) (Content_spec a3 p3 cap3 d3 rest3 hok3 (by omega) (by omega)) rfl ?_
          rintro _ _ ⟨rfl, rfl⟩
          refine RN.qq rfl rfl rfl rfl (PRun.q (p_move rfl (by conv => lhs; whnf))) ?_
          refine RN.qq rfl rfl rfl rfl (PRun.q (p_sneq rfl rfl rfl)) ?_
          refine RN.qq rfl rfl rfl rfl (PRun.q (p_pick_f rfl rfl (by conv => lhs; whnf))) ?_
          refine RN.nil ?_
          refine hK36 _ _ ?_
          refine T.known 204 rfl (show _ = Value.bool false from congrArg Value.bool (decide_eq_false (not_not_intro rfl))) ?_
          refine T.cond_f rfl ?_
          refine T.skip ?_
          refine hK17 _ _ ?_
          refine T.region (l := [0, 1, 2]) rfl ?_
          refine RN.qq rfl rfl rfl rfl (PRun.q (p_move rfl (by conv => lhs; whnf))) ?_
          refine RN.qq rfl rfl rfl rfl (PRun.q (by first | exact (p_addN (b := 1) rfl rfl rfl (by omega)) | exact (p_add rfl rfl rfl (by omega)))) ?_
          refine RN.qq rfl rfl rfl rfl (PRun.q (p_assign rfl (by conv => lhs; whnf))) ?_
          refine RN.nil ?_
          refine ⟨(i + 1, d5, a3, p3, cap3, d3, rest3), ⟨by omega, hok5, by omega, hok3, by omega, hc3⟩, (by simp; omega), (LiveIs.cons rfl (LiveIs.cons rfl (LiveIs.cons rfl (LiveIs.cons rfl (LiveIs.cons rfl (LiveIs.cons rfl (LiveIs.cons rfl (LiveIs.cons rfl LiveIs.nil)))))))), (Ent.pull_drop (is := [3, 3, 3, 0, 0, 0, 1, 1]) rfl)⟩
        ·
          refine RN.O rfl rfl rfl rfl ?_
          refine RN.O rfl rfl rfl rfl ?_
          refine RN.O rfl rfl rfl rfl ?_
          refine RN.O rfl rfl rfl rfl ?_
          refine RN.O rfl rfl rfl rfl ?_
          refine RN.O rfl rfl rfl rfl ?_
          refine RN.O rfl rfl rfl rfl ?_
          refine RN.qq rfl rfl rfl rfl (PRun.q (p_pick_f rfl rfl (by conv => lhs; whnf))) ?_
          refine RN.qq rfl rfl rfl rfl (PRun.q (p_move rfl (by conv => lhs; whnf))) ?_
          refine RN.qq rfl rfl rfl rfl (PRun.q (p_move rfl (by conv => lhs; whnf))) ?_
          refine RN.qq rfl rfl rfl rfl (PRun.q (by first | exact (p_not_dec rfl rfl) | exact (p_not rfl rfl))) ?_
          refine RN.qq rfl rfl rfl rfl (PRun.q (p_move rfl (by conv => lhs; whnf))) ?_
          refine RN.known 184 rfl (show _ = Value.bool true from congrArg Value.bool (decide_eq_true h172)) ?_
          refine RN.qq rfl rfl rfl rfl (PRun.q (p_move rfl (by conv => lhs; whnf))) ?_
          refine RN.qq rfl rfl rfl rfl (PRun.q (p_neq rfl rfl rfl)) ?_
          refine RN.qq rfl rfl rfl rfl (PRun.q (p_move rfl (by conv => lhs; whnf))) ?_
          refine RN.known 187 rfl (show _ = Value.bool false from congrArg Value.bool (decide_eq_false (by rw [if_neg h172]; decide))) ?_
          refine RN.qq rfl rfl rfl rfl (PRun.q (p_move rfl (by conv => lhs; whnf))) ?_
          refine RN.qq rfl rfl rfl rfl (PRun.q (p_sneq rfl rfl rfl)) ?_
          refine RN.qq rfl rfl rfl rfl (PRun.q (p_pick_f rfl rfl (by conv => lhs; whnf))) ?_
          refine RN.qq rfl rfl rfl rfl (PRun.q (p_pick_t rfl rfl (by conv => lhs; whnf))) ?_
          refine RN.qq rfl rfl rfl rfl (PRun.q (p_pick_f rfl rfl (by conv => lhs; whnf))) ?_
          refine RN.qq rfl rfl rfl rfl (PRun.q (p_move rfl (by conv => lhs; whnf))) ?_
          refine RN.known 193 rfl (show _ = Value.bool false from congrArg Value.bool (decide_eq_false (by rw [if_neg h172]; exact not_not_intro rfl))) ?_
          refine RN.qq rfl rfl rfl rfl (PRun.q (p_move rfl (by conv => lhs; whnf))) ?_
          refine RN.C [0, 0, 0] rfl rfl rfl rfl (c_call rfl rfl) (Content_spec a1 p1 cap1 d5 rest1 hok5 (by omega) (by omega)) rfl ?_
          rintro _ _ ⟨rfl, rfl⟩
          refine RN.qq rfl rfl rfl rfl (PRun.q (p_move rfl (by conv => lhs; whnf))) ?_
          refine RN.qq rfl rfl rfl rfl (PRun.q (p_sneq rfl rfl rfl)) ?_
          refine RN.qq rfl rfl rfl rfl (PRun.q (p_pick_f rfl rfl (by conv => lhs; whnf))) ?_
          refine RN.qq rfl rfl rfl rfl (PRun.q (p_move rfl (by conv => lhs; whnf))) ?_
          refine RN.known 199 rfl (show _ = Value.bool false from congrArg Value.bool (decide_eq_false (not_not_intro rfl))) ?_
          refine RN.qq rfl rfl rfl rfl (PRun.q (p_move rfl (by conv => lhs; whnf))) ?_
          refine RN.C [4, 4, 4] rfl rfl rfl rfl (c_call rfl rfl) (Content_spec a3 p3 cap3 d3 rest3 hok3 (by omega) (by omega)) rfl ?_
          rintro _ _ ⟨rfl, rfl⟩
          refine RN.qq rfl rfl rfl rfl (PRun.q (p_move rfl (by conv => lhs; whnf))) ?_
          refine RN.qq rfl rfl rfl rfl (PRun.q (p_sneq rfl rfl rfl)) ?_
          refine RN.qq rfl rfl rfl rfl (PRun.q (p_pick_f rfl rfl (by conv => lhs; whnf))) ?_
          refine RN.nil ?_
          refine hK36 _ _ ?_
          refine T.known 204 rfl (show _ = Value.bool false from congrArg Value.bool (decide_eq_false (not_not_intro rfl))) ?_
          refine T.cond_f rfl ?_
          refine T.skip ?_
          refine hK17 _ _ ?_
          refine T.region (l := [0, 1, 2]) rfl ?_
          refine RN.qq rfl rfl rfl rfl (PRun.q (p_move rfl (by conv => lhs; whnf))) ?_
          refine RN.qq rfl rfl rfl rfl (PRun.q (by first | exact (p_addN (b := 1) rfl rfl rfl (by omega)) | exact (p_add rfl rfl rfl (by omega)))) ?_
          refine RN.qq rfl rfl rfl rfl (PRun.q (p_assign rfl (by conv => lhs; whnf))) ?_
          refine RN.nil ?_
          refine ⟨(i + 1, d5, a3, p3, cap3, d3, rest3), ⟨by omega, hok5, by omega, hok3, by omega, hc3⟩, (by simp; omega), (LiveIs.cons rfl (LiveIs.cons rfl (LiveIs.cons rfl (LiveIs.cons rfl (LiveIs.cons rfl (LiveIs.cons rfl (LiveIs.cons rfl (LiveIs.cons rfl LiveIs.nil)))))))), (Ent.pull_drop (is := [3, 3, 3, 0, 0, 0, 1, 1]) rfl)⟩
  ·
    refine T.exit ?_
    refine Post.seq_x ?_
    refine Post.seq_x ?_
    refine Post.block_hit ?_
    refine hK12 _ _ ?_
    refine T.seq fun K37 hK37 => ?_
    refine T.region (l := [0, 1, 2, 3]) rfl ?_
    refine RN.qq rfl rfl rfl rfl (PRun.q (p_move rfl (by conv => lhs; whnf))) ?_
    refine RN.qq rfl rfl rfl rfl (PRun.q (p_move rfl (by conv => lhs; whnf))) ?_
    refine RN.ent (Ent.unflat (arrR 75 49 5 a1 p1 cap1 ds rest1 ++ arrR 75 49 5 a2 p2 cap2 d2 rest2) [old w0, Fr]) ?_
    refine RN.C [0] rfl rfl rfl rfl (c_call rfl rfl) (Differs_spec (sep (arrR 75 49 5 a1 p1 cap1 ds rest1 ++ arrR 75 49 5 a2 p2 cap2 d2 rest2)) a1 p1 cap1 ds rest1 a2 p2 cap2 d2 rest2 (Ent.pull_drop (is := [0, 0, 0]) rfl) (Ent.pull_drop (is := [3, 3, 3]) rfl) hok hok2 (by omega) (by omega)) rfl ?_
    rintro v207 _ ⟨hv207, rfl⟩
    refine RN.qq rfl rfl rfl rfl (PRun.q (p_assign rfl (by conv => lhs; whnf))) ?_
    refine RN.nil ?_
    refine hK37 _ _ ?_
    refine T.seq fun K38 hK38 => ?_
    refine T.region (l := [0, 1, 2, 3]) rfl ?_
    refine RN.qq rfl rfl rfl rfl (PRun.q (p_move rfl (by conv => lhs; whnf))) ?_
    refine RN.qq rfl rfl rfl rfl (PRun.q (p_move rfl (by conv => lhs; whnf))) ?_
    refine RN.C [] rfl rfl rfl rfl (c_call rfl rfl) (RDiffers_spec (cat ds) (cat d2) (by rw [cat_length hok]; omega) (by rw [cat_length hok2]; omega)) rfl ?_
    rintro v210 _ ⟨hv210, rfl⟩
    rw [cat_cap hok, cat_cap hok2, dif_cat hok hok2]
    generalize difK (bytesOf ds) (bytesOf d2) (max ds.length d2.length) = D
    refine RN.qq rfl rfl rfl rfl (PRun.q (p_assign rfl (by conv => lhs; whnf))) ?_
    refine RN.nil ?_
    refine hK38 _ _ ?_
    refine T.seq fun K39 hK39 => ?_
    refine T.seq fun K40 hK40 => ?_
    refine T.region (l := [0, 1, 2, 3, 4]) rfl ?_
    refine RN.qq rfl rfl rfl rfl (PRun.q (p_move rfl (by conv => lhs; whnf))) ?_
    refine RN.qq rfl rfl rfl rfl (q_len_vec rfl Try.underlying40 rfl (i := 1) rfl) ?_
    refine RN.qq rfl rfl rfl rfl (PRun.q (p_move rfl (by conv => lhs; whnf))) ?_
    refine RN.qq rfl rfl rfl rfl (q_len_vec rfl Try.underlying40 rfl (i := 0) rfl) ?_
    refine RN.qq rfl rfl rfl rfl (PRun.q (p_neq rfl rfl rfl)) ?_
    refine RN.nil ?_
    refine hK40 _ _ ?_
    refine T.known 215 rfl (show _ = Value.bool false from congrArg Value.bool (decide_eq_false (not_not_intro rfl))) ?_
    refine T.cond_f rfl ?_
    refine T.skip ?_
    refine hK39 _ _ ?_
    refine T.seq fun K41 hK41 => ?_
    refine T.seq fun K42 hK42 => ?_
    refine T.region (l := [0]) rfl ?_
    refine RN.qq rfl rfl rfl rfl (PRun.q (p_assign rfl (by conv => lhs; whnf))) ?_
    refine RN.nil ?_
    refine hK42 _ _ ?_
    refine T.block ?_
    refine T.loop (G := Nat) (fun j => j ≤ D.length) (fun j => [(0, intV sz), (7, ptr a1 0), (9, strV (cat ds)), (24, v207), (25, v210), (26, intV j)]) (fun j => [vec 3 1 v210 D.length (D.map intV), vec 3 1 v207 D.length (D.map intV), sep (arrR 75 49 5 a1 p1 cap1 ds rest1 ++ arrR 75 49 5 a2 p2 cap2 d2 rest2), old w0, Fr]) (fun j => D.length - j) 0 (Nat.zero_le _) (LiveIs.cons rfl (LiveIs.cons rfl (LiveIs.cons rfl (LiveIs.cons rfl (LiveIs.cons rfl (LiveIs.cons rfl LiveIs.nil)))))) (Ent.refl _) ?_
    rintro j e43 hjk
    refine T.seq fun K44 hK44 => ?_
    refine T.seq fun K45 hK45 => ?_
    refine T.region (l := [0, 1, 2, 3]) rfl ?_
    refine RN.qq rfl rfl rfl rfl (PRun.q (p_move rfl (by conv => lhs; whnf))) ?_
    refine RN.qq rfl rfl rfl rfl (PRun.q (p_move rfl (by conv => lhs; whnf))) ?_
    refine RN.qq rfl rfl rfl rfl (q_len_vec rfl Try.underlying40 rfl (i := 1) rfl) ?_
    refine RN.qq rfl rfl rfl rfl (PRun.q (p_lss rfl rfl rfl)) ?_
    refine RN.nil ?_
    refine hK45 _ _ ?_
    first | refine T.cond_dec rfl (fun h219 => ?_) (fun h219 => ?_) | refine T.cond rfl (fun h219 => ?_) (fun h219 => ?_)
    ·
      have hj : j < D.length := by omega
      refine T.skip ?_
      refine hK44 _ _ ?_
      refine T.seq fun K46 hK46 => ?_
      refine T.block ?_
      refine T.seq fun K47 hK47 => ?_
      refine T.openVec 0 rfl (by omega) ?_
      rintro b25 cap25 rest25 rfl hp1 hp2 hp3
      refine T.openVec 1 rfl (by omega) ?_
      rintro b24 cap24 rest24 rfl hq1 hq2 hq3
      refine T.regionD (z := 9) (Bs := _) (l := [(0, .pure), (1, .pure), (2, .pure), (3, .load), (4, .pure), (5, .pure), (6, .pure), (7, .load), (8, .pure)]) mixed (by kernel_rfl) (Ent.refl _) ?_
      refine RD.pp rfl rfl rfl rfl (p_move rfl (by conv => lhs; whnf)) ?_
      refine RD.pp rfl rfl rfl rfl (p_move rfl (by conv => lhs; whnf)) ?_
      refine RD.pp rfl rfl rfl rfl (by first | exact (p_indexAddr1N rfl Try.underlying40 ts_3 rfl rfl (by omega)) | exact (p_indexAddr1 rfl Try.underlying40 ts_3 rfl rfl (by omega))) ?_
      refine RD.qq rfl rfl rfl rfl (q_load rfl sc_3 rfl (i := 1) rfl (vget hj)) (Ent.refl _) ?_
      refine RD.pp rfl rfl rfl rfl (p_move rfl (by conv => lhs; whnf)) ?_
      refine RD.pp rfl rfl rfl rfl (p_move rfl (by conv => lhs; whnf)) ?_
      refine RD.pp rfl rfl rfl rfl (by first | exact (p_indexAddr1N rfl Try.underlying40 ts_3 rfl rfl (by omega)) | exact (p_indexAddr1 rfl Try.underlying40 ts_3 rfl rfl (by omega))) ?_
      refine RD.qq rfl rfl rfl rfl (q_load rfl sc_3 rfl (i := 0) rfl (vget hj)) (Ent.refl _) ?_
      refine RD.pp rfl rfl rfl rfl (p_neq rfl rfl rfl) ?_
      refine RD.nil ?_
      refine hK47 _ _ ?_
      refine T.known 230 rfl (show _ = Value.bool false from congrArg Value.bool (decide_eq_false (not_not_intro rfl))) ?_
      refine T.cond_f rfl ?_
      refine T.skip ?_
      refine hK46 _ _ ?_
      refine T.region (l := [0, 1, 2]) rfl ?_
      refine RN.qq rfl rfl rfl rfl (PRun.q (p_move rfl (by conv => lhs; whnf))) ?_
      refine RN.qq rfl rfl rfl rfl (PRun.q (by first | exact (p_addN (b := 1) rfl rfl rfl (by omega)) | exact (p_add rfl rfl rfl (by omega)))) ?_
      refine RN.qq rfl rfl rfl rfl (PRun.q (p_assign rfl (by conv => lhs; whnf))) ?_
      refine RN.nil ?_
      refine ⟨j + 1, (by omega), (by omega), (LiveIs.cons rfl (LiveIs.cons rfl (LiveIs.cons rfl (LiveIs.cons rfl (LiveIs.cons rfl (LiveIs.cons rfl LiveIs.nil)))))), (Ent.cons (vec_of_row (by simp) hp1 hp2 hp3) (Ent.cons (vec_of_row (by simp) hq1 hq2 hq3) (Ent.refl _)))⟩
    ·
      refine T.exit ?_
      refine Post.seq_x ?_
      refine Post.seq_x ?_
      refine Post.block_hit ?_
      refine hK41 _ _ ?_
      refine T.seq fun K48 hK48 => ?_
      refine T.ent ((Ent.pull_drop (is := [2, 2, 2]) rfl).trans (Ent.flat (arrR 75 49 5 a1 p1 cap1 ds rest1 ++ arrR 75 49 5 a2 p2 cap2 d2 rest2) [old w0, Fr])) ?_
      refine T.region (l := [0, 1, 2, 3, 4, 5, 6, 7, 8]) rfl ?_
      refine RN.qq rfl rfl rfl rfl (PRun.q (p_move rfl (by conv => lhs; whnf))) ?_
      refine RN.qq rfl rfl rfl rfl (PRun.q (by first | exact (p_quoN (b := 2) rfl rfl rfl (by omega)) | exact (p_quo rfl rfl rfl (by omega)))) ?_
      refine RN.qq rfl rfl rfl rfl (PRun.q (by first | exact (p_addN (b := 1) rfl rfl rfl (by omega)) | exact (p_add rfl rfl rfl (by omega)))) ?_
      refine RN.C [] rfl rfl rfl rfl (c_call rfl rfl) (New_spec ((sz / 2 + 1 : Nat) : Int)) rfl ?_
      rintro v235 Ps235 hq235
      obtain ⟨a27, p27, cap27, d27, rest27, rfl, hn27, hok27, hb27, hc27, rfl⟩ := NewQ_yes hq235 (by omega)
      rw [Int.toNat_natCast] at hb27
      have hl27 : d27.length = sz / 2 + 1 := by omega
      refine RN.qq rfl rfl rfl rfl (PRun.q (p_move rfl (by conv => lhs; whnf))) ?_
      refine RN.qq rfl rfl rfl rfl (PRun.q (p_extract rfl rfl rfl)) ?_
      refine RN.qq rfl rfl rfl rfl (PRun.q (p_extract rfl rfl rfl)) ?_
      refine RN.qq rfl rfl rfl rfl (PRun.q (p_assign rfl (by conv => lhs; whnf))) ?_
      refine RN.qq rfl rfl rfl rfl (PRun.q (p_assign rfl (by conv => lhs; whnf))) ?_
      refine RN.nil ?_
      refine hK48 _ _ ?_
      refine T.seq fun K49 hK49 => ?_
      refine T.region (l := [0, 1, 2, 3, 4, 5, 6, 7, 8, 9, 10, 11, 12, 13, 14, 15, 16, 17, 18, 19, 20, 21, 22, 23]) rfl ?_
      refine RN.qq rfl rfl rfl rfl (PRun.q (p_move rfl (by conv => lhs; whnf))) ?_
      refine RN.qq rfl rfl rfl rfl (PRun.q (p_eql rfl rfl rfl)) ?_
      refine RN.qq rfl rfl rfl rfl (PRun.q (p_move rfl (by conv => lhs; whnf))) ?_
      refine RN.known 240 rfl (show _ = Value.bool true from rfl) ?_
      refine RN.qq rfl rfl rfl rfl (PRun.q (p_move rfl (by conv => lhs; whnf))) ?_
      refine RN.qq rfl rfl rfl rfl (PRun.q (p_move rfl (by conv => lhs; whnf))) ?_
      refine RN.ent (Ent.unflat (arrR 75 49 5 a27 p27 cap27 d27 rest27 ++ arrR 75 49 5 a1 p1 cap1 ds rest1) (arrR 75 49 5 a2 p2 cap2 d2 rest2 ++ [old w0, Fr])) ?_
      refine RN.C [0] rfl rfl rfl rfl (c_call rfl rfl) (Differs_spec (sep (arrR 75 49 5 a27 p27 cap27 d27 rest27 ++ arrR 75 49 5 a1 p1 cap1 ds rest1)) a1 p1 cap1 ds rest1 a27 p27 cap27 d27 rest27 (Ent.pull_drop (is := [3, 3, 3]) rfl) (Ent.pull_drop (is := [0, 0, 0]) rfl) hok hok27 (by omega) (by omega)) rfl ?_
      rintro v243 _ ⟨hv243, rfl⟩
      refine RN.qq rfl rfl rfl rfl (q_len_vec rfl Try.underlying40 rfl (i := 0) rfl) ?_
      refine RN.qq rfl rfl rfl rfl (PRun.q (p_move rfl (by conv => lhs; whnf))) ?_
      refine RN.qq rfl rfl rfl rfl (PRun.q (p_move rfl (by conv => lhs; whnf))) ?_
      refine RN.qq rfl rfl rfl rfl (PRun.q (by first | exact (p_quoN (b := 2) rfl rfl rfl (by omega)) | exact (p_quo rfl rfl rfl (by omega)))) ?_
      refine RN.qq rfl rfl rfl rfl (PRun.q (by first | exact (p_addN (b := 1) rfl rfl rfl (by omega)) | exact (p_add rfl rfl rfl (by omega)))) ?_
      refine RN.C [] rfl rfl rfl rfl (c_call rfl rfl) (RNew_spec (sz / 2 + 1) (by omega)) rfl ?_
      rintro _ _ ⟨rfl, rfl⟩
      rw [← cat_z hb27]
      refine RN.C [] rfl rfl rfl rfl (c_call rfl rfl) (RDiffers_spec (cat ds) (cat d27) (by rw [cat_length hok]; omega) (by rw [cat_length hok27]; omega)) rfl ?_
      rintro v250 _ ⟨hv250, rfl⟩
      rw [cat_cap hok, cat_cap hok27, dif_cat hok hok27]
      refine RN.qq rfl rfl rfl rfl (q_len_vec rfl Try.underlying40 rfl (i := 0) rfl) ?_
      refine RN.qq rfl rfl rfl rfl (PRun.q (p_eql rfl rfl rfl)) ?_
      refine RN.qq rfl rfl rfl rfl (PRun.q (p_pick_t rfl rfl (by conv => lhs; whnf))) ?_
      refine RN.qq rfl rfl rfl rfl (PRun.q (p_move rfl (by conv => lhs; whnf))) ?_
      refine RN.known 254 rfl (show _ = Value.bool true from congrArg Value.bool (decide_eq_true (rfl))) ?_
      refine RN.qq rfl rfl rfl rfl (PRun.q (p_move rfl (by conv => lhs; whnf))) ?_
      refine RN.qq rfl rfl rfl rfl (PRun.q (p_move rfl (by conv => lhs; whnf))) ?_
      refine RN.C [2] rfl rfl rfl rfl (c_call rfl rfl) (Differs_spec (sep (arrR 75 49 5 a27 p27 cap27 d27 rest27 ++ arrR 75 49 5 a1 p1 cap1 ds rest1)) a1 p1 cap1 ds rest1 a1 p1 cap1 ds rest1 (Ent.pull_drop (is := [3, 3, 3]) rfl) (Ent.pull_drop (is := [3, 3, 3]) rfl) hok hok (by omega) (by omega)) rfl ?_
      rintro v257 _ ⟨hv257, rfl⟩
      rw [dif_self _ _ (by simp)]
      refine RN.qq rfl rfl rfl rfl (q_len_vec rfl Try.underlying40 rfl (i := 0) rfl) ?_
      refine RN.qq rfl rfl rfl rfl (PRun.q (p_eql rfl rfl rfl)) ?_
      refine RN.qq rfl rfl rfl rfl (PRun.q (p_pick_t rfl rfl (by conv => lhs; whnf))) ?_
      refine RN.qq rfl rfl rfl rfl (PRun.q (p_assign rfl (by conv => lhs; whnf))) ?_
      refine RN.nil ?_
      refine hK49 _ _ ?_
      refine T.ret ?_
      refine bodyQ_ret [old w0] (RetRun.tmp RetRun.nil) ⟨rfl, rfl⟩ (Ent.pull_drop (is := [7, 7]) rfl)

end Go.Proofs.Yticfabhcfdmbjaa
