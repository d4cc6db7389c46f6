/-
  Walk of ModelApart.
-/
import Derived.Test.YticfabhcfdmbjaaYtM13
namespace Go.Proofs.Yticfabhcfdmbjaa
open Go Go.Sl Go.Proofs
set_option maxRecDepth 20000
open Go.Mo
theorem ModelApart_run (sz : Nat) (x y : Cmd) (hs : 1 ≤ sz ∧ sz ≤ 512) (hdx : x.data.length ≤ 140737488351232) : Ctr Try.prog 5 [intV sz, .agg x.cells.toArray, .agg y.cells.toArray] [] (fun v Ps => v = .bool true ∧ Ps = []) := by
  refine Ctr.of_body Try.func5 rfl (by kernel_rfl) Try.ntmps5 rfl rfl (fun Fr => ?_)
  refine T.seq fun K1 hK1 => ?_
  refine T.region (l := [0, 1, 2]) rfl ?_
  refine RN.E rfl rfl rfl rfl (e_box rfl rfl rfl) ?_
  rintro _ _ ⟨b4, rfl, rfl⟩
  refine RN.E rfl rfl rfl rfl (e_box rfl rfl rfl) ?_
  rintro _ _ ⟨b5, rfl, rfl⟩
  refine RN.qq rfl rfl rfl rfl (PRun.q (p_assign rfl (by conv => lhs; whnf))) ?_
  refine RN.nil ?_
  refine hK1 _ _ ?_
  refine T.seq fun K2 hK2 => ?_
  refine T.seq fun K3 hK3 => ?_
  refine T.region (l := [0, 1]) rfl ?_
  refine RN.C [] rfl rfl rfl rfl (c_call rfl rfl) (awake_spec) rfl ?_
  rintro _ _ ⟨rfl, rfl⟩
  refine RN.qq rfl rfl rfl rfl (PRun.q (by first | exact (p_not_dec rfl rfl) | exact (p_not rfl rfl))) ?_
  refine RN.nil ?_
  refine hK3 _ _ ?_
  refine T.known 19 rfl (show _ = Value.bool false from rfl) ?_
  refine T.cond_f rfl ?_
  refine T.skip ?_
  refine hK2 _ _ ?_
  refine T.seq fun K4 hK4 => ?_
  refine T.region (l := [0, 1, 2, 3, 4, 5, 6]) rfl ?_
  refine RN.qq rfl rfl rfl rfl (PRun.q (p_move rfl (by conv => lhs; whnf))) ?_
  refine RN.C [] rfl rfl rfl rfl (c_call rfl rfl) (New_spec (sz : Int)) rfl ?_
  rintro v22 Ps22 hq22
  obtain ⟨a7, p7, cap7, ds7, rest7, rfl, hn7, hok7, hb7, hc7, rfl⟩ := NewQ_yes hq22 (by omega)
  rw [Int.toNat_natCast] at hb7
  have hl7 : ds7.length = sz := by omega
  refine RN.qq rfl rfl rfl rfl (PRun.q (p_move rfl (by conv => lhs; whnf))) ?_
  refine RN.qq rfl rfl rfl rfl (PRun.q (p_extract rfl rfl rfl)) ?_
  refine RN.qq rfl rfl rfl rfl (PRun.q (p_extract rfl rfl rfl)) ?_
  refine RN.qq rfl rfl rfl rfl (PRun.q (p_assign rfl (by conv => lhs; whnf))) ?_
  refine RN.qq rfl rfl rfl rfl (PRun.q (p_assign rfl (by conv => lhs; whnf))) ?_
  refine RN.nil ?_
  refine hK4 _ _ ?_
  refine T.seq fun K5 hK5 => ?_
  refine T.region (l := [0, 1, 2, 3, 4, 5, 6]) rfl ?_
  refine RN.qq rfl rfl rfl rfl (PRun.q (p_move rfl (by conv => lhs; whnf))) ?_
  refine RN.C [] rfl rfl rfl rfl (c_call rfl rfl) (New_spec (sz : Int)) rfl ?_
  rintro v27 Ps27 hq27
  obtain ⟨a9, p9, cap9, ds9, rest9, rfl, hn9, hok9, hb9, hc9, rfl⟩ := NewQ_yes hq27 (by omega)
  rw [Int.toNat_natCast] at hb9
  have hl9 : ds9.length = sz := by omega
  refine RN.qq rfl rfl rfl rfl (PRun.q (p_move rfl (by conv => lhs; whnf))) ?_
  refine RN.qq rfl rfl rfl rfl (PRun.q (p_extract rfl rfl rfl)) ?_
  refine RN.qq rfl rfl rfl rfl (PRun.q (p_extract rfl rfl rfl)) ?_
  refine RN.qq rfl rfl rfl rfl (PRun.q (p_assign rfl (by conv => lhs; whnf))) ?_
  refine RN.qq rfl rfl rfl rfl (PRun.q (p_assign rfl (by conv => lhs; whnf))) ?_
  refine RN.nil ?_
  refine hK5 _ _ ?_
  refine T.cut (G := Unit) (fun ⟨⟩ => 1 ≤ x.n ∧ 1 ≤ y.n ∧ x.n ≤ sz ∧ y.n ≤ sz ∧ ¬ (x.lba < IntKind.i64.wrap (y.lba + y.n) ∧ y.lba < IntKind.i64.wrap (x.lba + x.n))) (fun ⟨⟩ => [(0, intV sz), (4, ptr b4 0), (5, ptr b5 0), (7, ptr a7 0), (9, ptr a9 0)]) (fun ⟨⟩ => [row b4 35 x.cells, row b5 35 y.cells, row a7 75 [slc p7 0 ds7.length cap7], row p7 49 (ds7.map Sec.hdr ++ rest7), sep (ds7.map (Sec.own 5)), row a9 75 [slc p9 0 ds9.length cap9], row p9 49 (ds9.map Sec.hdr ++ rest9), sep (ds9.map (Sec.own 5)), Fr]) ?_ ?_
  ·
    refine T.seq fun K7 hK7 => ?_
    refine T.region (l := [0, 1, 2, 3, 4, 5, 6, 7, 8, 9, 10, 11, 12, 13, 14, 15, 16, 17, 18, 19, 20, 21, 22, 23, 24, 25, 26, 27, 28, 29, 30, 31, 32, 33, 34, 35, 36, 37, 38, 39, 40, 41, 42, 43, 44, 45, 46, 47]) rfl ?_
    refine RN.qq rfl rfl rfl rfl (PRun.q (p_move rfl (by conv => lhs; whnf))) ?_
    refine RN.qq rfl rfl rfl rfl (PRun.q (p_neq rfl rfl rfl)) ?_
    refine RN.qq rfl rfl rfl rfl (PRun.q (p_move rfl (by conv => lhs; whnf))) ?_
    refine RN.known 32 rfl (show _ = Value.bool false from rfl) ?_
    refine RN.qq rfl rfl rfl rfl (PRun.q (p_move rfl (by conv => lhs; whnf))) ?_
    refine RN.qq rfl rfl rfl rfl (PRun.q (p_neq rfl rfl rfl)) ?_
    refine RN.qq rfl rfl rfl rfl (PRun.q (p_pick_f rfl rfl (by conv => lhs; whnf))) ?_
    refine RN.qq rfl rfl rfl rfl (PRun.q (p_move rfl (by conv => lhs; whnf))) ?_
    refine RN.known 36 rfl (show _ = Value.bool false from rfl) ?_
    refine RN.qq rfl rfl rfl rfl (PRun.q (p_fieldAddr rfl fa_35_2 rfl)) ?_
    refine RN.qq rfl rfl rfl rfl (by first | exact (q_load rfl sc_3 rfl (i := 0) rfl rfl) | exact (q_load rfl sc_3 rfl (i := 1) rfl rfl) | exact (q_load rfl sc_3 rfl (i := 2) rfl rfl) | exact (q_load rfl sc_3 rfl (i := 3) rfl rfl) | exact (q_load rfl sc_3 rfl (i := 4) rfl rfl) | exact (q_load rfl sc_3 rfl (i := 5) rfl rfl) | exact (q_load rfl sc_3 rfl (i := 6) rfl rfl) | exact (q_load rfl sc_3 rfl (i := 7) rfl rfl) | exact (q_load rfl sc_3 rfl (i := 8) rfl rfl)) ?_
    refine RN.qq rfl rfl rfl rfl (PRun.q (p_lss rfl rfl rfl)) ?_
    refine RN.qq rfl rfl rfl rfl (PRun.q (p_pick_f rfl rfl (by conv => lhs; whnf))) ?_
    refine RN.qq rfl rfl rfl rfl (PRun.q (p_move rfl (by conv => lhs; whnf))) ?_
    first | refine RN.split_dec 41 rfl (fun h41 => ?_) (fun h41 => ?_) | refine RN.split 41 rfl (fun h41 => ?_) (fun h41 => ?_)
    ·
      refine RN.O rfl rfl rfl rfl ?_
      refine RN.O rfl rfl rfl rfl ?_
      refine RN.O rfl rfl rfl rfl ?_
      refine RN.qq rfl rfl rfl rfl (PRun.q (p_pick_t rfl rfl (by conv => lhs; whnf))) ?_
      refine RN.qq rfl rfl rfl rfl (PRun.q (p_move rfl (by conv => lhs; whnf))) ?_
      refine RN.O rfl rfl rfl rfl ?_
      refine RN.O rfl rfl rfl rfl ?_
      refine RN.O rfl rfl rfl rfl ?_
      refine RN.O rfl rfl rfl rfl ?_
      refine RN.qq rfl rfl rfl rfl (PRun.q (p_pick_t rfl rfl (by conv => lhs; whnf))) ?_
      refine RN.qq rfl rfl rfl rfl (PRun.q (p_move rfl (by conv => lhs; whnf))) ?_
      refine RN.O rfl rfl rfl rfl ?_
      refine RN.O rfl rfl rfl rfl ?_
      refine RN.O rfl rfl rfl rfl ?_
      refine RN.O rfl rfl rfl rfl ?_
      refine RN.qq rfl rfl rfl rfl (PRun.q (p_pick_t rfl rfl (by conv => lhs; whnf))) ?_
      refine RN.qq rfl rfl rfl rfl (PRun.q (p_move rfl (by conv => lhs; whnf))) ?_
      refine RN.O rfl rfl rfl rfl ?_
      refine RN.O rfl rfl rfl rfl ?_
      refine RN.O rfl rfl rfl rfl ?_
      refine RN.O rfl rfl rfl rfl ?_
      refine RN.O rfl rfl rfl rfl ?_
      refine RN.O rfl rfl rfl rfl ?_
      refine RN.O rfl rfl rfl rfl ?_
      refine RN.O rfl rfl rfl rfl ?_
      refine RN.O rfl rfl rfl rfl ?_
      refine RN.O rfl rfl rfl rfl ?_
      refine RN.O rfl rfl rfl rfl ?_
      refine RN.O rfl rfl rfl rfl ?_
      refine RN.O rfl rfl rfl rfl ?_
      refine RN.O rfl rfl rfl rfl ?_
      refine RN.O rfl rfl rfl rfl ?_
      refine RN.O rfl rfl rfl rfl ?_
      refine RN.O rfl rfl rfl rfl ?_
      refine RN.O rfl rfl rfl rfl ?_
      refine RN.qq rfl rfl rfl rfl (PRun.q (p_pick_t rfl rfl (by conv => lhs; whnf))) ?_
      refine RN.nil ?_
      refine hK7 _ _ ?_
      refine T.cond_t rfl ?_
      refine T.seq fun K8 hK8 => ?_
      refine T.region (l := [0, 1, 2, 3]) rfl ?_
      refine RN.qq rfl rfl rfl rfl (PRun.q (p_move rfl (by conv => lhs; whnf))) ?_
      refine RN.qq rfl rfl rfl rfl (PRun.q (p_move rfl (by conv => lhs; whnf))) ?_
      refine RN.qq rfl rfl rfl rfl (PRun.q (p_eql rfl rfl rfl)) ?_
      refine RN.qq rfl rfl rfl rfl (PRun.q (p_assign rfl (by conv => lhs; whnf))) ?_
      refine RN.nil ?_
      refine hK8 _ _ ?_
      refine T.ret ?_
      refine Post.seq_r ?_
      refine bodyQ_ret [] (RetRun.tmp RetRun.nil) ⟨rfl, rfl⟩ (Ent.pull_drop (is := [8]) rfl)
    ·
      refine RN.qq rfl rfl rfl rfl (PRun.q (p_fieldAddr rfl fa_35_2 rfl)) ?_
      refine RN.qq rfl rfl rfl rfl (by first | exact (q_load rfl sc_3 rfl (i := 0) rfl rfl) | exact (q_load rfl sc_3 rfl (i := 1) rfl rfl) | exact (q_load rfl sc_3 rfl (i := 2) rfl rfl) | exact (q_load rfl sc_3 rfl (i := 3) rfl rfl) | exact (q_load rfl sc_3 rfl (i := 4) rfl rfl) | exact (q_load rfl sc_3 rfl (i := 5) rfl rfl) | exact (q_load rfl sc_3 rfl (i := 6) rfl rfl) | exact (q_load rfl sc_3 rfl (i := 7) rfl rfl) | exact (q_load rfl sc_3 rfl (i := 8) rfl rfl)) ?_
      refine RN.qq rfl rfl rfl rfl (PRun.q (p_lss rfl rfl rfl)) ?_
      refine RN.qq rfl rfl rfl rfl (PRun.q (p_pick_f rfl rfl (by conv => lhs; whnf))) ?_
      refine RN.qq rfl rfl rfl rfl (PRun.q (p_move rfl (by conv => lhs; whnf))) ?_
      first | refine RN.split_dec 46 rfl (fun h46 => ?_) (fun h46 => ?_) | refine RN.split 46 rfl (fun h46 => ?_) (fun h46 => ?_)
      ·
        refine RN.O rfl rfl rfl rfl ?_
        refine RN.O rfl rfl rfl rfl ?_
        refine RN.O rfl rfl rfl rfl ?_
        refine RN.O rfl rfl rfl rfl ?_
        refine RN.qq rfl rfl rfl rfl (PRun.q (p_pick_t rfl rfl (by conv => lhs; whnf))) ?_
        refine RN.qq rfl rfl rfl rfl (PRun.q (p_move rfl (by conv => lhs; whnf))) ?_
        refine RN.O rfl rfl rfl rfl ?_
        refine RN.O rfl rfl rfl rfl ?_
        refine RN.O rfl rfl rfl rfl ?_
        refine RN.O rfl rfl rfl rfl ?_
        refine RN.qq rfl rfl rfl rfl (PRun.q (p_pick_t rfl rfl (by conv => lhs; whnf))) ?_
        refine RN.qq rfl rfl rfl rfl (PRun.q (p_move rfl (by conv => lhs; whnf))) ?_
        refine RN.O rfl rfl rfl rfl ?_
        refine RN.O rfl rfl rfl rfl ?_
        refine RN.O rfl rfl rfl rfl ?_
        refine RN.O rfl rfl rfl rfl ?_
        refine RN.O rfl rfl rfl rfl ?_
        refine RN.O rfl rfl rfl rfl ?_
        refine RN.O rfl rfl rfl rfl ?_
        refine RN.O rfl rfl rfl rfl ?_
        refine RN.O rfl rfl rfl rfl ?_
        refine RN.O rfl rfl rfl rfl ?_
        refine RN.O rfl rfl rfl rfl ?_
        refine RN.O rfl rfl rfl rfl ?_
        refine RN.O rfl rfl rfl rfl ?_
        refine RN.O rfl rfl rfl rfl ?_
        refine RN.O rfl rfl rfl rfl ?_
        refine RN.O rfl rfl rfl rfl ?_
        refine RN.O rfl rfl rfl rfl ?_
        refine RN.O rfl rfl rfl rfl ?_
        refine RN.qq rfl rfl rfl rfl (PRun.q (p_pick_t rfl rfl (by conv => lhs; whnf))) ?_
        refine RN.nil ?_
        refine hK7 _ _ ?_
        refine T.cond_t rfl ?_
        refine T.seq fun K9 hK9 => ?_
        refine T.region (l := [0, 1, 2, 3]) rfl ?_
        refine RN.qq rfl rfl rfl rfl (PRun.q (p_move rfl (by conv => lhs; whnf))) ?_
        refine RN.qq rfl rfl rfl rfl (PRun.q (p_move rfl (by conv => lhs; whnf))) ?_
        refine RN.qq rfl rfl rfl rfl (PRun.q (p_eql rfl rfl rfl)) ?_
        refine RN.qq rfl rfl rfl rfl (PRun.q (p_assign rfl (by conv => lhs; whnf))) ?_
        refine RN.nil ?_
        refine hK9 _ _ ?_
        refine T.ret ?_
        refine Post.seq_r ?_
        refine bodyQ_ret [] (RetRun.tmp RetRun.nil) ⟨rfl, rfl⟩ (Ent.pull_drop (is := [8]) rfl)
      ·
        refine RN.qq rfl rfl rfl rfl (PRun.q (p_fieldAddr rfl fa_35_2 rfl)) ?_
        refine RN.qq rfl rfl rfl rfl (by first | exact (q_load rfl sc_3 rfl (i := 0) rfl rfl) | exact (q_load rfl sc_3 rfl (i := 1) rfl rfl) | exact (q_load rfl sc_3 rfl (i := 2) rfl rfl) | exact (q_load rfl sc_3 rfl (i := 3) rfl rfl) | exact (q_load rfl sc_3 rfl (i := 4) rfl rfl) | exact (q_load rfl sc_3 rfl (i := 5) rfl rfl) | exact (q_load rfl sc_3 rfl (i := 6) rfl rfl) | exact (q_load rfl sc_3 rfl (i := 7) rfl rfl) | exact (q_load rfl sc_3 rfl (i := 8) rfl rfl)) ?_
        refine RN.qq rfl rfl rfl rfl (PRun.q (p_move rfl (by conv => lhs; whnf))) ?_
        refine RN.qq rfl rfl rfl rfl (PRun.q (p_gtr rfl rfl rfl)) ?_
        refine RN.qq rfl rfl rfl rfl (PRun.q (p_pick_f rfl rfl (by conv => lhs; whnf))) ?_
        refine RN.qq rfl rfl rfl rfl (PRun.q (p_move rfl (by conv => lhs; whnf))) ?_
        first | refine RN.split_dec 52 rfl (fun h52 => ?_) (fun h52 => ?_) | refine RN.split 52 rfl (fun h52 => ?_) (fun h52 => ?_)
        ·
          refine RN.O rfl rfl rfl rfl ?_
          refine RN.O rfl rfl rfl rfl ?_
          refine RN.O rfl rfl rfl rfl ?_
          refine RN.O rfl rfl rfl rfl ?_
          refine RN.qq rfl rfl rfl rfl (PRun.q (p_pick_t rfl rfl (by conv => lhs; whnf))) ?_
          refine RN.qq rfl rfl rfl rfl (PRun.q (p_move rfl (by conv => lhs; whnf))) ?_
          refine RN.O rfl rfl rfl rfl ?_
          refine RN.O rfl rfl rfl rfl ?_
          refine RN.O rfl rfl rfl rfl ?_
          refine RN.O rfl rfl rfl rfl ?_
          refine RN.O rfl rfl rfl rfl ?_
          refine RN.O rfl rfl rfl rfl ?_
          refine RN.O rfl rfl rfl rfl ?_
          refine RN.O rfl rfl rfl rfl ?_
          refine RN.O rfl rfl rfl rfl ?_
          refine RN.O rfl rfl rfl rfl ?_
          refine RN.O rfl rfl rfl rfl ?_
          refine RN.O rfl rfl rfl rfl ?_
          refine RN.O rfl rfl rfl rfl ?_
          refine RN.O rfl rfl rfl rfl ?_
          refine RN.O rfl rfl rfl rfl ?_
          refine RN.O rfl rfl rfl rfl ?_
          refine RN.O rfl rfl rfl rfl ?_
          refine RN.O rfl rfl rfl rfl ?_
          refine RN.qq rfl rfl rfl rfl (PRun.q (p_pick_t rfl rfl (by conv => lhs; whnf))) ?_
          refine RN.nil ?_
          refine hK7 _ _ ?_
          refine T.cond_t rfl ?_
          refine T.seq fun K10 hK10 => ?_
          refine T.region (l := [0, 1, 2, 3]) rfl ?_
          refine RN.qq rfl rfl rfl rfl (PRun.q (p_move rfl (by conv => lhs; whnf))) ?_
          refine RN.qq rfl rfl rfl rfl (PRun.q (p_move rfl (by conv => lhs; whnf))) ?_
          refine RN.qq rfl rfl rfl rfl (PRun.q (p_eql rfl rfl rfl)) ?_
          refine RN.qq rfl rfl rfl rfl (PRun.q (p_assign rfl (by conv => lhs; whnf))) ?_
          refine RN.nil ?_
          refine hK10 _ _ ?_
          refine T.ret ?_
          refine Post.seq_r ?_
          refine bodyQ_ret [] (RetRun.tmp RetRun.nil) ⟨rfl, rfl⟩ (Ent.pull_drop (is := [8]) rfl)
        ·
          refine RN.qq rfl rfl rfl rfl (PRun.q (p_fieldAddr rfl fa_35_2 rfl)) ?_
          refine RN.qq rfl rfl rfl rfl (by first | exact (q_load rfl sc_3 rfl (i := 0) rfl rfl) | exact (q_load rfl sc_3 rfl (i := 1) rfl rfl) | exact (q_load rfl sc_3 rfl (i := 2) rfl rfl) | exact (q_load rfl sc_3 rfl (i := 3) rfl rfl) | exact (q_load rfl sc_3 rfl (i := 4) rfl rfl) | exact (q_load rfl sc_3 rfl (i := 5) rfl rfl) | exact (q_load rfl sc_3 rfl (i := 6) rfl rfl) | exact (q_load rfl sc_3 rfl (i := 7) rfl rfl) | exact (q_load rfl sc_3 rfl (i := 8) rfl rfl)) ?_
          refine RN.qq rfl rfl rfl rfl (PRun.q (p_move rfl (by conv => lhs; whnf))) ?_
          refine RN.qq rfl rfl rfl rfl (PRun.q (p_gtr rfl rfl rfl)) ?_
          refine RN.qq rfl rfl rfl rfl (PRun.q (p_pick_f rfl rfl (by conv => lhs; whnf))) ?_
          refine RN.qq rfl rfl rfl rfl (PRun.q (p_move rfl (by conv => lhs; whnf))) ?_
          first | refine RN.split_dec 58 rfl (fun h58 => ?_) (fun h58 => ?_) | refine RN.split 58 rfl (fun h58 => ?_) (fun h58 => ?_)
          ·
            refine RN.O rfl rfl rfl rfl ?_
            refine RN.O rfl rfl rfl rfl ?_
            refine RN.O rfl rfl rfl rfl ?_
            refine RN.O rfl rfl rfl rfl ?_
            refine RN.O rfl rfl rfl rfl ?_
            refine RN.O rfl rfl rfl rfl ?_
            refine RN.O rfl rfl rfl rfl ?_
            refine RN.O rfl rfl rfl rfl ?_
            refine RN.O rfl rfl rfl rfl ?_
            refine RN.O rfl rfl rfl rfl ?_
            refine RN.O rfl rfl rfl rfl ?_
            refine RN.O rfl rfl rfl rfl ?_
            refine RN.O rfl rfl rfl rfl ?_
            refine RN.O rfl rfl rfl rfl ?_
            refine RN.O rfl rfl rfl rfl ?_
            refine RN.O rfl rfl rfl rfl ?_
            refine RN.O rfl rfl rfl rfl ?_
            refine RN.O rfl rfl rfl rfl ?_
            refine RN.qq rfl rfl rfl rfl (PRun.q (p_pick_t rfl rfl (by conv => lhs; whnf))) ?_
            refine RN.nil ?_
            refine hK7 _ _ ?_
            refine T.cond_t rfl ?_
            refine T.seq fun K11 hK11 => ?_
            refine T.region (l := [0, 1, 2, 3]) rfl ?_
            refine RN.qq rfl rfl rfl rfl (PRun.q (p_move rfl (by conv => lhs; whnf))) ?_
            refine RN.qq rfl rfl rfl rfl (PRun.q (p_move rfl (by conv => lhs; whnf))) ?_
            refine RN.qq rfl rfl rfl rfl (PRun.q (p_eql rfl rfl rfl)) ?_
            refine RN.qq rfl rfl rfl rfl (PRun.q (p_assign rfl (by conv => lhs; whnf))) ?_
            refine RN.nil ?_
            refine hK11 _ _ ?_
            refine T.ret ?_
            refine Post.seq_r ?_
            refine bodyQ_ret [] (RetRun.tmp RetRun.nil) ⟨rfl, rfl⟩ (Ent.pull_drop (is := [8]) rfl)
          ·
            refine RN.qq rfl rfl rfl rfl (PRun.q (p_fieldAddr rfl fa_35_1 rfl)) ?_
            refine RN.qq rfl rfl rfl rfl (by first | exact (q_load rfl sc_3 rfl (i := 0) rfl rfl) | exact (q_load rfl sc_3 rfl (i := 1) rfl rfl) | exact (q_load rfl sc_3 rfl (i := 2) rfl rfl) | exact (q_load rfl sc_3 rfl (i := 3) rfl rfl) | exact (q_load rfl sc_3 rfl (i := 4) rfl rfl) | exact (q_load rfl sc_3 rfl (i := 5) rfl rfl) | exact (q_load rfl sc_3 rfl (i := 6) rfl rfl) | exact (q_load rfl sc_3 rfl (i := 7) rfl rfl) | exact (q_load rfl sc_3 rfl (i := 8) rfl rfl)) ?_
            refine RN.qq rfl rfl rfl rfl (PRun.q (p_fieldAddr rfl fa_35_1 rfl)) ?_
            refine RN.qq rfl rfl rfl rfl (by first | exact (q_load rfl sc_3 rfl (i := 0) rfl rfl) | exact (q_load rfl sc_3 rfl (i := 1) rfl rfl) | exact (q_load rfl sc_3 rfl (i := 2) rfl rfl) | exact (q_load rfl sc_3 rfl (i := 3) rfl rfl) | exact (q_load rfl sc_3 rfl (i := 4) rfl rfl) | exact (q_load rfl sc_3 rfl (i := 5) rfl rfl) | exact (q_load rfl sc_3 rfl (i := 6) rfl rfl) | exact (q_load rfl sc_3 rfl (i := 7) rfl rfl) | exact (q_load rfl sc_3 rfl (i := 8) rfl rfl)) ?_
            refine RN.qq rfl rfl rfl rfl (PRun.q (p_fieldAddr rfl fa_35_2 rfl)) ?_
            refine RN.qq rfl rfl rfl rfl (by first | exact (q_load rfl sc_3 rfl (i := 0) rfl rfl) | exact (q_load rfl sc_3 rfl (i := 1) rfl rfl) | exact (q_load rfl sc_3 rfl (i := 2) rfl rfl) | exact (q_load rfl sc_3 rfl (i := 3) rfl rfl) | exact (q_load rfl sc_3 rfl (i := 4) rfl rfl) | exact (q_load rfl sc_3 rfl (i := 5) rfl rfl) | exact (q_load rfl sc_3 rfl (i := 6) rfl rfl) | exact (q_load rfl sc_3 rfl (i := 7) rfl rfl) | exact (q_load rfl sc_3 rfl (i := 8) rfl rfl)) ?_
            refine RN.qq rfl rfl rfl rfl (PRun.q (p_add_w rfl rfl rfl)) ?_
            refine RN.qq rfl rfl rfl rfl (PRun.q (p_lss rfl rfl rfl)) ?_
            refine RN.qq rfl rfl rfl rfl (PRun.q (p_move rfl (by conv => lhs; whnf))) ?_
            first | refine RN.split_dec 67 rfl (fun h67 => ?_) (fun h67 => ?_) | refine RN.split 67 rfl (fun h67 => ?_) (fun h67 => ?_)
            ·
              refine RN.qq rfl rfl rfl rfl (PRun.q (p_fieldAddr rfl fa_35_1 rfl)) ?_
              refine RN.qq rfl rfl rfl rfl (by first | exact (q_load rfl sc_3 rfl (i := 0) rfl rfl) | exact (q_load rfl sc_3 rfl (i := 1) rfl rfl) | exact (q_load rfl sc_3 rfl (i := 2) rfl rfl) | exact (q_load rfl sc_3 rfl (i := 3) rfl rfl) | exact (q_load rfl sc_3 rfl (i := 4) rfl rfl) | exact (q_load rfl sc_3 rfl (i := 5) rfl rfl) | exact (q_load rfl sc_3 rfl (i := 6) rfl rfl) | exact (q_load rfl sc_3 rfl (i := 7) rfl rfl) | exact (q_load rfl sc_3 rfl (i := 8) rfl rfl)) ?_
              refine RN.qq rfl rfl rfl rfl (PRun.q (p_fieldAddr rfl fa_35_1 rfl)) ?_
              refine RN.qq rfl rfl rfl rfl (by first | exact (q_load rfl sc_3 rfl (i := 0) rfl rfl) | exact (q_load rfl sc_3 rfl (i := 1) rfl rfl) | exact (q_load rfl sc_3 rfl (i := 2) rfl rfl) | exact (q_load rfl sc_3 rfl (i := 3) rfl rfl) | exact (q_load rfl sc_3 rfl (i := 4) rfl rfl) | exact (q_load rfl sc_3 rfl (i := 5) rfl rfl) | exact (q_load rfl sc_3 rfl (i := 6) rfl rfl) | exact (q_load rfl sc_3 rfl (i := 7) rfl rfl) | exact (q_load rfl sc_3 rfl (i := 8) rfl rfl)) ?_
              refine RN.qq rfl rfl rfl rfl (PRun.q (p_fieldAddr rfl fa_35_2 rfl)) ?_
              refine RN.qq rfl rfl rfl rfl (by first | exact (q_load rfl sc_3 rfl (i := 0) rfl rfl) | exact (q_load rfl sc_3 rfl (i := 1) rfl rfl) | exact (q_load rfl sc_3 rfl (i := 2) rfl rfl) | exact (q_load rfl sc_3 rfl (i := 3) rfl rfl) | exact (q_load rfl sc_3 rfl (i := 4) rfl rfl) | exact (q_load rfl sc_3 rfl (i := 5) rfl rfl) | exact (q_load rfl sc_3 rfl (i := 6) rfl rfl) | exact (q_load rfl sc_3 rfl (i := 7) rfl rfl) | exact (q_load rfl sc_3 rfl (i := 8) rfl rfl)) ?_
              refine RN.qq rfl rfl rfl rfl (PRun.q (p_add_w rfl rfl rfl)) ?_
              refine RN.qq rfl rfl rfl rfl (PRun.q (p_lss rfl rfl rfl)) ?_
              refine RN.qq rfl rfl rfl rfl (PRun.q (p_pick_t rfl rfl (by conv => lhs; whnf))) ?_
              refine RN.qq rfl rfl rfl rfl (PRun.q (p_pick_f rfl rfl (by conv => lhs; whnf))) ?_
              refine RN.nil ?_
              refine hK7 _ _ ?_
              first | refine T.cond_dec rfl (fun h77 => ?_) (fun h77 => ?_) | refine T.cond rfl (fun h77 => ?_) (fun h77 => ?_)
              ·
                refine T.seq fun K12 hK12 => ?_
                refine T.region (l := [0, 1, 2, 3]) rfl ?_
                refine RN.qq rfl rfl rfl rfl (PRun.q (p_move rfl (by conv => lhs; whnf))) ?_
                refine RN.qq rfl rfl rfl rfl (PRun.q (p_move rfl (by conv => lhs; whnf))) ?_
                refine RN.qq rfl rfl rfl rfl (PRun.q (p_eql rfl rfl rfl)) ?_
                refine RN.qq rfl rfl rfl rfl (PRun.q (p_assign rfl (by conv => lhs; whnf))) ?_
                refine RN.nil ?_
                refine hK12 _ _ ?_
                refine T.ret ?_
                refine Post.seq_r ?_
                refine bodyQ_ret [] (RetRun.tmp RetRun.nil) ⟨rfl, rfl⟩ (Ent.pull_drop (is := [8]) rfl)
              ·
                refine T.skip ?_
                refine ⟨(), ⟨by omega, by omega, by omega, by omega, fun hh => h77 hh.2⟩, (LiveIs.cons rfl (LiveIs.cons rfl (LiveIs.cons rfl (LiveIs.cons rfl (LiveIs.cons rfl LiveIs.nil))))), (Ent.pull_drop (is := [7, 6, 3, 3, 3, 0, 0, 0, 0]) rfl)⟩
            ·
              refine RN.O rfl rfl rfl rfl ?_
              refine RN.O rfl rfl rfl rfl ?_
              refine RN.O rfl rfl rfl rfl ?_
              refine RN.O rfl rfl rfl rfl ?_
              refine RN.O rfl rfl rfl rfl ?_
              refine RN.O rfl rfl rfl rfl ?_
              refine RN.O rfl rfl rfl rfl ?_
              refine RN.O rfl rfl rfl rfl ?_
              refine RN.qq rfl rfl rfl rfl (PRun.q (p_pick_f rfl rfl (by conv => lhs; whnf))) ?_
              refine RN.qq rfl rfl rfl rfl (PRun.q (p_pick_f rfl rfl (by conv => lhs; whnf))) ?_
              refine RN.nil ?_
              refine hK7 _ _ ?_
              refine T.cond_f rfl ?_
              refine T.skip ?_
              refine ⟨(), ⟨by omega, by omega, by omega, by omega, fun hh => h67 hh.1⟩, (LiveIs.cons rfl (LiveIs.cons rfl (LiveIs.cons rfl (LiveIs.cons rfl (LiveIs.cons rfl LiveIs.nil))))), (Ent.pull_drop (is := [7, 6, 3, 3, 3, 0, 0, 0, 0]) rfl)⟩
  ·
    rintro ⟨⟩ e6 hC
    refine T.seq fun K13 hK13 => ?_
    refine T.region (l := [0, 1, 2, 3, 4, 5, 6, 7, 8]) rfl ?_
    refine RN.qq rfl rfl rfl rfl (PRun.q (p_move rfl (by conv => lhs; whnf))) ?_
    refine RN.qq rfl rfl rfl rfl (PRun.q (p_fieldAddr rfl fa_35_1 rfl)) ?_
    refine RN.qq rfl rfl rfl rfl (by first | exact (q_load rfl sc_3 rfl (i := 0) rfl rfl) | exact (q_load rfl sc_3 rfl (i := 1) rfl rfl) | exact (q_load rfl sc_3 rfl (i := 2) rfl rfl) | exact (q_load rfl sc_3 rfl (i := 3) rfl rfl) | exact (q_load rfl sc_3 rfl (i := 4) rfl rfl) | exact (q_load rfl sc_3 rfl (i := 5) rfl rfl) | exact (q_load rfl sc_3 rfl (i := 6) rfl rfl) | exact (q_load rfl sc_3 rfl (i := 7) rfl rfl) | exact (q_load rfl sc_3 rfl (i := 8) rfl rfl)) ?_
    refine RN.qq rfl rfl rfl rfl (PRun.q (p_fieldAddr rfl fa_35_2 rfl)) ?_
    refine RN.qq rfl rfl rfl rfl (by first | exact (q_load rfl sc_3 rfl (i := 0) rfl rfl) | exact (q_load rfl sc_3 rfl (i := 1) rfl rfl) | exact (q_load rfl sc_3 rfl (i := 2) rfl rfl) | exact (q_load rfl sc_3 rfl (i := 3) rfl rfl) | exact (q_load rfl sc_3 rfl (i := 4) rfl rfl) | exact (q_load rfl sc_3 rfl (i := 5) rfl rfl) | exact (q_load rfl sc_3 rfl (i := 6) rfl rfl) | exact (q_load rfl sc_3 rfl (i := 7) rfl rfl) | exact (q_load rfl sc_3 rfl (i := 8) rfl rfl)) ?_
    refine RN.qq rfl rfl rfl rfl (PRun.q (p_fieldAddr rfl fa_35_3 rfl)) ?_
    refine RN.qq rfl rfl rfl rfl (by first | exact (q_load rfl sc_9 rfl (i := 0) rfl rfl) | exact (q_load rfl sc_9 rfl (i := 1) rfl rfl) | exact (q_load rfl sc_9 rfl (i := 2) rfl rfl) | exact (q_load rfl sc_9 rfl (i := 3) rfl rfl) | exact (q_load rfl sc_9 rfl (i := 4) rfl rfl) | exact (q_load rfl sc_9 rfl (i := 5) rfl rfl) | exact (q_load rfl sc_9 rfl (i := 6) rfl rfl) | exact (q_load rfl sc_9 rfl (i := 7) rfl rfl) | exact (q_load rfl sc_9 rfl (i := 8) rfl rfl)) ?_
    refine RN.C [2, 2, 2] rfl rfl rfl rfl (c_call rfl rfl) (Write_spec a7 p7 cap7 ds7 rest7 x.lba x.n x.data hok7 (by omega)) rfl ?_
    rintro v88 _ ⟨hv88, e1, hoke1, hbe1, rfl⟩
    rw [hl7] at hv88 hbe1
    subst hv88
    have hwe1 : bytesOf e1 = wrI (bytesOf ds7) sz x.lba x.n x.data := hbe1
    have hle1 : e1.length = sz := by rw [bytes_len, hwe1, wrI_length, ← bytes_len]; exact hl7
    refine RN.qq rfl rfl rfl rfl (PRun.q (p_assign rfl (by conv => lhs; whnf))) ?_
    refine RN.nil ?_
    refine hK13 _ _ ?_
    refine T.seq fun K14 hK14 => ?_
    refine T.region (l := [0, 1, 2, 3, 4, 5, 6, 7, 8]) rfl ?_
    refine RN.qq rfl rfl rfl rfl (PRun.q (p_move rfl (by conv => lhs; whnf))) ?_
    refine RN.qq rfl rfl rfl rfl (PRun.q (p_fieldAddr rfl fa_35_1 rfl)) ?_
    refine RN.qq rfl rfl rfl rfl (by first | exact (q_load rfl sc_3 rfl (i := 0) rfl rfl) | exact (q_load rfl sc_3 rfl (i := 1) rfl rfl) | exact (q_load rfl sc_3 rfl (i := 2) rfl rfl) | exact (q_load rfl sc_3 rfl (i := 3) rfl rfl) | exact (q_load rfl sc_3 rfl (i := 4) rfl rfl) | exact (q_load rfl sc_3 rfl (i := 5) rfl rfl) | exact (q_load rfl sc_3 rfl (i := 6) rfl rfl) | exact (q_load rfl sc_3 rfl (i := 7) rfl rfl) | exact (q_load rfl sc_3 rfl (i := 8) rfl rfl)) ?_
    refine RN.qq rfl rfl rfl rfl (PRun.q (p_fieldAddr rfl fa_35_2 rfl)) ?_
    refine RN.qq rfl rfl rfl rfl (by first | exact (q_load rfl sc_3 rfl (i := 0) rfl rfl) | exact (q_load rfl sc_3 rfl (i := 1) rfl rfl) | exact (q_load rfl sc_3 rfl (i := 2) rfl rfl) | exact (q_load rfl sc_3 rfl (i := 3) rfl rfl) | exact (q_load rfl sc_3 rfl (i := 4) rfl rfl) | exact (q_load rfl sc_3 rfl (i := 5) rfl rfl) | exact (q_load rfl sc_3 rfl (i := 6) rfl rfl) | exact (q_load rfl sc_3 rfl (i := 7) rfl rfl) | exact (q_load rfl sc_3 rfl (i := 8) rfl rfl)) ?_
    refine RN.qq rfl rfl rfl rfl (PRun.q (p_fieldAddr rfl fa_35_3 rfl)) ?_
    refine RN.qq rfl rfl rfl rfl (by first | exact (q_load rfl sc_9 rfl (i := 0) rfl rfl) | exact (q_load rfl sc_9 rfl (i := 1) rfl rfl) | exact (q_load rfl sc_9 rfl (i := 2) rfl rfl) | exact (q_load rfl sc_9 rfl (i := 3) rfl rfl) | exact (q_load rfl sc_9 rfl (i := 4) rfl rfl) | exact (q_load rfl sc_9 rfl (i := 5) rfl rfl) | exact (q_load rfl sc_9 rfl (i := 6) rfl rfl) | exact (q_load rfl sc_9 rfl (i := 7) rfl rfl) | exact (q_load rfl sc_9 rfl (i := 8) rfl rfl)) ?_
    refine RN.C [0, 0, 0] rfl rfl rfl rfl (c_call rfl rfl) (Write_spec a7 p7 cap7 e1 rest7 y.lba y.n y.data hoke1 (by omega)) rfl ?_
    rintro v96 _ ⟨hv96, e2, hoke2, hbe2, rfl⟩
    rw [hle1] at hv96 hbe2
    subst hv96
    have hwe2 : bytesOf e2 = wrI (bytesOf e1) sz y.lba y.n y.data := hbe2
    have hle2 : e2.length = sz := by rw [bytes_len, hwe2, wrI_length, ← bytes_len]; exact hle1
    refine RN.qq rfl rfl rfl rfl (PRun.q (p_assign rfl (by conv => lhs; whnf))) ?_
    refine RN.nil ?_
    refine hK14 _ _ ?_
    refine T.seq fun K15 hK15 => ?_
    refine T.region (l := [0, 1, 2, 3, 4, 5, 6, 7, 8]) rfl ?_
    refine RN.qq rfl rfl rfl rfl (PRun.q (p_move rfl (by conv => lhs; whnf))) ?_
    refine RN.qq rfl rfl rfl rfl (PRun.q (p_fieldAddr rfl fa_35_1 rfl)) ?_
    refine RN.qq rfl rfl rfl rfl (by first | exact (q_load rfl sc_3 rfl (i := 0) rfl rfl) | exact (q_load rfl sc_3 rfl (i := 1) rfl rfl) | exact (q_load rfl sc_3 rfl (i := 2) rfl rfl) | exact (q_load rfl sc_3 rfl (i := 3) rfl rfl) | exact (q_load rfl sc_3 rfl (i := 4) rfl rfl) | exact (q_load rfl sc_3 rfl (i := 5) rfl rfl) | exact (q_load rfl sc_3 rfl (i := 6) rfl rfl) | exact (q_load rfl sc_3 rfl (i := 7) rfl rfl) | exact (q_load rfl sc_3 rfl (i := 8) rfl rfl)) ?_
    refine RN.qq rfl rfl rfl rfl (PRun.q (p_fieldAddr rfl fa_35_2 rfl)) ?_
    refine RN.qq rfl rfl rfl rfl (by first | exact (q_load rfl sc_3 rfl (i := 0) rfl rfl) | exact (q_load rfl sc_3 rfl (i := 1) rfl rfl) | exact (q_load rfl sc_3 rfl (i := 2) rfl rfl) | exact (q_load rfl sc_3 rfl (i := 3) rfl rfl) | exact (q_load rfl sc_3 rfl (i := 4) rfl rfl) | exact (q_load rfl sc_3 rfl (i := 5) rfl rfl) | exact (q_load rfl sc_3 rfl (i := 6) rfl rfl) | exact (q_load rfl sc_3 rfl (i := 7) rfl rfl) | exact (q_load rfl sc_3 rfl (i := 8) rfl rfl)) ?_
    refine RN.qq rfl rfl rfl rfl (PRun.q (p_fieldAddr rfl fa_35_3 rfl)) ?_
    refine RN.qq rfl rfl rfl rfl (by first | exact (q_load rfl sc_9 rfl (i := 0) rfl rfl) | exact (q_load rfl sc_9 rfl (i := 1) rfl rfl) | exact (q_load rfl sc_9 rfl (i := 2) rfl rfl) | exact (q_load rfl sc_9 rfl (i := 3) rfl rfl) | exact (q_load rfl sc_9 rfl (i := 4) rfl rfl) | exact (q_load rfl sc_9 rfl (i := 5) rfl rfl) | exact (q_load rfl sc_9 rfl (i := 6) rfl rfl) | exact (q_load rfl sc_9 rfl (i := 7) rfl rfl) | exact (q_load rfl sc_9 rfl (i := 8) rfl rfl)) ?_
    refine RN.C [5, 5, 5] rfl rfl rfl rfl (c_call rfl rfl) (Write_spec a9 p9 cap9 ds9 rest9 y.lba y.n y.data hok9 (by omega)) rfl ?_
    rintro v104 _ ⟨hv104, f1, hokf1, hbf1, rfl⟩
    rw [hl9] at hv104 hbf1
    subst hv104
    have hwf1 : bytesOf f1 = wrI (bytesOf ds9) sz y.lba y.n y.data := hbf1
    have hlf1 : f1.length = sz := by rw [bytes_len, hwf1, wrI_length, ← bytes_len]; exact hl9
    refine RN.qq rfl rfl rfl rfl (PRun.q (p_assign rfl (by conv => lhs; whnf))) ?_
    refine RN.nil ?_
    refine hK15 _ _ ?_
    refine T.seq fun K16 hK16 => ?_
    refine T.region (l := [0, 1, 2, 3, 4, 5, 6, 7, 8]) rfl ?_
    refine RN.qq rfl rfl rfl rfl (PRun.q (p_move rfl (by conv => lhs; whnf))) ?_
    refine RN.qq rfl rfl rfl rfl (PRun.q (p_fieldAddr rfl fa_35_1 rfl)) ?_
    refine RN.qq rfl rfl rfl rfl (by first | exact (q_load rfl sc_3 rfl (i := 0) rfl rfl) | exact (q_load rfl sc_3 rfl (i := 1) rfl rfl) | exact (q_load rfl sc_3 rfl (i := 2) rfl rfl) | exact (q_load rfl sc_3 rfl (i := 3) rfl rfl) | exact (q_load rfl sc_3 rfl (i := 4) rfl rfl) | exact (q_load rfl sc_3 rfl (i := 5) rfl rfl) | exact (q_load rfl sc_3 rfl (i := 6) rfl rfl) | exact (q_load rfl sc_3 rfl (i := 7) rfl rfl) | exact (q_load rfl sc_3 rfl (i := 8) rfl rfl)) ?_
    refine RN.qq rfl rfl rfl rfl (PRun.q (p_fieldAddr rfl fa_35_2 rfl)) ?_
    refine RN.qq rfl rfl rfl rfl (by first | exact (q_load rfl sc_3 rfl (i := 0) rfl rfl) | exact (q_load rfl sc_3 rfl (i := 1) rfl rfl) | exact (q_load rfl sc_3 rfl (i := 2) rfl rfl) | exact (q_load rfl sc_3 rfl (i := 3) rfl rfl) | exact (q_load rfl sc_3 rfl (i := 4) rfl rfl) | exact (q_load rfl sc_3 rfl (i := 5) rfl rfl) | exact (q_load rfl sc_3 rfl (i := 6) rfl rfl) | exact (q_load rfl sc_3 rfl (i := 7) rfl rfl) | exact (q_load rfl sc_3 rfl (i := 8) rfl rfl)) ?_
    refine RN.qq rfl rfl rfl rfl (PRun.q (p_fieldAddr rfl fa_35_3 rfl)) ?_
    refine RN.qq rfl rfl rfl rfl (by first | exact (q_load rfl sc_9 rfl (i := 0) rfl rfl) | exact (q_load rfl sc_9 rfl (i := 1) rfl rfl) | exact (q_load rfl sc_9 rfl (i := 2) rfl rfl) | exact (q_load rfl sc_9 rfl (i := 3) rfl rfl) | exact (q_load rfl sc_9 rfl (i := 4) rfl rfl) | exact (q_load rfl sc_9 rfl (i := 5) rfl rfl) | exact (q_load rfl sc_9 rfl (i := 6) rfl rfl) | exact (q_load rfl sc_9 rfl (i := 7) rfl rfl) | exact (q_load rfl sc_9 rfl (i := 8) rfl rfl)) ?_
    refine RN.C [0, 0, 0] rfl rfl rfl rfl (c_call rfl rfl) (Write_spec a9 p9 cap9 f1 rest9 x.lba x.n x.data hokf1 (by omega)) rfl ?_
    rintro v112 _ ⟨hv112, f2, hokf2, hbf2, rfl⟩
    rw [hlf1] at hv112 hbf2
    subst hv112
    have hwf2 : bytesOf f2 = wrI (bytesOf f1) sz x.lba x.n x.data := hbf2
    have hlf2 : f2.length = sz := by rw [bytes_len, hwf2, wrI_length, ← bytes_len]; exact hlf1
    have hxy := apart_law (xs := bytesOf ds7) (a := x.data) (b := y.data) (by rw [← bytes_len]; omega) hC.2.2.2.2
    rw [← bytes_len, hl7] at hxy
    have hef : bytesOf e2 = bytesOf f2 := by rw [hwe2, hwe1, hwf2, hwf1, hb9, ← hb7]; exact hxy
    refine RN.qq rfl rfl rfl rfl (PRun.q (p_assign rfl (by conv => lhs; whnf))) ?_
    refine RN.nil ?_
    refine hK16 _ _ ?_
    refine T.seq fun K17 hK17 => ?_
    refine T.seq fun K18 hK18 => ?_
    refine T.region (l := [0, 1, 2, 3, 4, 5, 6, 7, 8, 9, 10, 11, 12, 13, 14, 15, 16, 17, 18, 19, 20, 21]) rfl ?_
    refine RN.qq rfl rfl rfl rfl (PRun.q (p_move rfl (by conv => lhs; whnf))) ?_
    refine RN.qq rfl rfl rfl rfl (PRun.q (p_move rfl (by conv => lhs; whnf))) ?_
    refine RN.qq rfl rfl rfl rfl (PRun.q (p_neq rfl rfl rfl)) ?_
    refine RN.qq rfl rfl rfl rfl (PRun.q (p_move rfl (by conv => lhs; whnf))) ?_
    refine RN.known 116 rfl (show _ = Value.bool false from congrArg Value.bool (decide_eq_false (not_not_intro rfl))) ?_
    refine RN.qq rfl rfl rfl rfl (PRun.q (p_move rfl (by conv => lhs; whnf))) ?_
    refine RN.qq rfl rfl rfl rfl (PRun.q (p_move rfl (by conv => lhs; whnf))) ?_
    refine RN.qq rfl rfl rfl rfl (PRun.q (p_neq rfl rfl rfl)) ?_
    refine RN.qq rfl rfl rfl rfl (PRun.q (p_pick_f rfl rfl (by conv => lhs; whnf))) ?_
    refine RN.qq rfl rfl rfl rfl (PRun.q (p_move rfl (by conv => lhs; whnf))) ?_
    refine RN.known 121 rfl (show _ = Value.bool false from congrArg Value.bool (decide_eq_false (not_not_intro rfl))) ?_
    refine RN.qq rfl rfl rfl rfl (PRun.q (p_move rfl (by conv => lhs; whnf))) ?_
    refine RN.C [3, 3, 3] rfl rfl rfl rfl (c_call rfl rfl) (Content_spec a7 p7 cap7 e2 rest7 hoke2 (by omega) (by omega)) rfl ?_
    rintro _ _ ⟨rfl, rfl⟩
    refine RN.qq rfl rfl rfl rfl (PRun.q (p_move rfl (by conv => lhs; whnf))) ?_
    refine RN.C [3, 3, 3] rfl rfl rfl rfl (c_call rfl rfl) (Content_spec a9 p9 cap9 f2 rest9 hokf2 (by omega) (by omega)) rfl ?_
    rintro _ _ ⟨rfl, rfl⟩
    refine RN.qq rfl rfl rfl rfl (PRun.q (p_sneq rfl rfl rfl)) ?_
    refine RN.qq rfl rfl rfl rfl (PRun.q (p_pick_f rfl rfl (by conv => lhs; whnf))) ?_
    refine RN.qq rfl rfl rfl rfl (PRun.q (p_move rfl (by conv => lhs; whnf))) ?_
    refine RN.known 128 rfl (show _ = Value.bool false from congrArg Value.bool (decide_eq_false (not_not_intro (by rw [cat_bytes, cat_bytes, hef])))) ?_
    refine RN.qq rfl rfl rfl rfl (PRun.q (p_move rfl (by conv => lhs; whnf))) ?_
    refine RN.qq rfl rfl rfl rfl (PRun.q (p_move rfl (by conv => lhs; whnf))) ?_
    refine RN.ent (Ent.unflat (arrR 75 49 5 a9 p9 cap9 f2 rest9 ++ arrR 75 49 5 a7 p7 cap7 e2 rest7) [row b4 35 x.cells, row b5 35 y.cells, Fr]) ?_
    refine RN.C [0] rfl rfl rfl rfl (c_call rfl rfl) (Differs_spec (sep (arrR 75 49 5 a9 p9 cap9 f2 rest9 ++ arrR 75 49 5 a7 p7 cap7 e2 rest7)) a7 p7 cap7 e2 rest7 a9 p9 cap9 f2 rest9 (Ent.pull_drop (is := [3, 3, 3]) rfl) (Ent.pull_drop (is := [0, 0, 0]) rfl) hoke2 hokf2 (by omega) (by omega)) rfl ?_
    rintro v131 _ ⟨hv131, rfl⟩
    rw [← hef, dif_self _ _ (by rw [← bytes_len]; omega)]
    refine RN.qq rfl rfl rfl rfl (q_len_vec rfl Try.underlying40 rfl (i := 0) rfl) ?_
    refine RN.qq rfl rfl rfl rfl (PRun.q (p_neq rfl rfl rfl)) ?_
    refine RN.qq rfl rfl rfl rfl (PRun.q (p_pick_f rfl rfl (by conv => lhs; whnf))) ?_
    refine RN.nil ?_
    refine hK18 _ _ ?_
    refine T.known 134 rfl (show _ = Value.bool false from rfl) ?_
    refine T.cond_f rfl ?_
    refine T.skip ?_
    refine hK17 _ _ ?_
    refine T.seq fun K19 hK19 => ?_
    refine T.seq fun K20 hK20 => ?_
    refine T.region (l := [0, 1]) rfl ?_
    refine RN.qq rfl rfl rfl rfl (PRun.q (p_move rfl (by conv => lhs; whnf))) ?_
    refine RN.qq rfl rfl rfl rfl (PRun.q (p_neq rfl rfl rfl)) ?_
    refine RN.nil ?_
    refine hK20 _ _ ?_
    first | refine T.cond_dec rfl (fun h136 => ?_) (fun h136 => ?_) | refine T.cond rfl (fun h136 => ?_) (fun h136 => ?_)
    ·
      have hnR : ¬ Right (sz : Int) x.lba x.n := fun h => h136 (if_pos h)
      refine T.seq fun K21 hK21 => ?_
      refine T.region (l := [0, 1, 2]) rfl ?_
      refine RN.qq rfl rfl rfl rfl (PRun.q (p_move rfl (by conv => lhs; whnf))) ?_
      refine RN.qq rfl rfl rfl rfl (PRun.q (p_eql rfl rfl rfl)) ?_
      refine RN.qq rfl rfl rfl rfl (PRun.q (p_assign rfl (by conv => lhs; whnf))) ?_
      refine RN.nil ?_
      refine hK21 _ _ ?_
      refine T.ret ?_
      refine Post.seq_r ?_
      refine bodyQ_ret [] (RetRun.tmp RetRun.nil) ⟨congrArg Value.bool (decide_eq_true (if_neg hnR)), rfl⟩ (Ent.pull_drop (is := [4]) rfl)
    ·
      have hR : Right (sz : Int) x.lba x.n := Classical.byContradiction fun h => h136 (by rw [if_neg h]; decide)
      have hread : cat ((e2.drop x.lba.toNat).take x.n.toNat) = (padN (x.n.toNat * 32) x.data) := by
        have hz := read_back (xs := bytesOf f1) (data := x.data) (by rw [← bytes_len, hlf1]; exact hR)
        rw [← bytes_len, hlf1, ← hwf2, ← hef] at hz
        rw [bytes_mid]; exact hz
      have hpl : (padN (x.n.toNat * 32) x.data).length = x.n.toNat * 32 := padN_length _ _
      refine T.skip ?_
      refine hK19 _ _ ?_
      refine T.seq fun K22 hK22 => ?_
      refine T.ent ((Ent.pull_drop (is := [1, 1, 1, 1]) rfl).trans (Ent.flat (arrR 75 49 5 a9 p9 cap9 f2 rest9 ++ arrR 75 49 5 a7 p7 cap7 e2 rest7) [row b4 35 x.cells, row b5 35 y.cells, Fr])) ?_
      refine T.region (l := [0, 1, 2, 3, 4, 5, 6, 7, 8, 9, 10]) rfl ?_
      refine RN.qq rfl rfl rfl rfl (PRun.q (p_move rfl (by conv => lhs; whnf))) ?_
      refine RN.qq rfl rfl rfl rfl (PRun.q (p_fieldAddr rfl fa_35_1 rfl)) ?_
      refine RN.qq rfl rfl rfl rfl (by first | exact (q_load rfl sc_3 rfl (i := 0) rfl rfl) | exact (q_load rfl sc_3 rfl (i := 1) rfl rfl) | exact (q_load rfl sc_3 rfl (i := 2) rfl rfl) | exact (q_load rfl sc_3 rfl (i := 3) rfl rfl) | exact (q_load rfl sc_3 rfl (i := 4) rfl rfl) | exact (q_load rfl sc_3 rfl (i := 5) rfl rfl) | exact (q_load rfl sc_3 rfl (i := 6) rfl rfl) | exact (q_load rfl sc_3 rfl (i := 7) rfl rfl) | exact (q_load rfl sc_3 rfl (i := 8) rfl rfl)) ?_
      refine RN.qq rfl rfl rfl rfl (PRun.q (p_fieldAddr rfl fa_35_2 rfl)) ?_
      refine RN.qq rfl rfl rfl rfl (by first | exact (q_load rfl sc_3 rfl (i := 0) rfl rfl) | exact (q_load rfl sc_3 rfl (i := 1) rfl rfl) | exact (q_load rfl sc_3 rfl (i := 2) rfl rfl) | exact (q_load rfl sc_3 rfl (i := 3) rfl rfl) | exact (q_load rfl sc_3 rfl (i := 4) rfl rfl) | exact (q_load rfl sc_3 rfl (i := 5) rfl rfl) | exact (q_load rfl sc_3 rfl (i := 6) rfl rfl) | exact (q_load rfl sc_3 rfl (i := 7) rfl rfl) | exact (q_load rfl sc_3 rfl (i := 8) rfl rfl)) ?_
      refine RN.C [3, 3, 3] rfl rfl rfl rfl (c_call rfl rfl) (Read_spec a7 p7 cap7 e2 rest7 x.lba x.n hoke2 (by omega) (by omega)) rfl ?_
      rintro v145 _ ⟨hv145, rfl⟩
      rw [hle2, if_pos hR, if_pos hR, hread] at hv145
      subst hv145
      refine RN.qq rfl rfl rfl rfl (PRun.q (p_move rfl (by conv => lhs; whnf))) ?_
      refine RN.qq rfl rfl rfl rfl (PRun.q (p_extract rfl rfl rfl)) ?_
      refine RN.qq rfl rfl rfl rfl (PRun.q (p_extract rfl rfl rfl)) ?_
      refine RN.qq rfl rfl rfl rfl (PRun.q (p_assign rfl (by conv => lhs; whnf))) ?_
      refine RN.qq rfl rfl rfl rfl (PRun.q (p_assign rfl (by conv => lhs; whnf))) ?_
      refine RN.nil ?_
      refine hK22 _ _ ?_
      refine T.seq fun K23 hK23 => ?_
      refine T.region (l := [0, 1, 2, 3]) rfl ?_
      refine RN.qq rfl rfl rfl rfl (PRun.q (p_fieldAddr rfl fa_35_3 rfl)) ?_
      refine RN.qq rfl rfl rfl rfl (by first | exact (q_load rfl sc_9 rfl (i := 0) rfl rfl) | exact (q_load rfl sc_9 rfl (i := 1) rfl rfl) | exact (q_load rfl sc_9 rfl (i := 2) rfl rfl) | exact (q_load rfl sc_9 rfl (i := 3) rfl rfl) | exact (q_load rfl sc_9 rfl (i := 4) rfl rfl) | exact (q_load rfl sc_9 rfl (i := 5) rfl rfl) | exact (q_load rfl sc_9 rfl (i := 6) rfl rfl) | exact (q_load rfl sc_9 rfl (i := 7) rfl rfl) | exact (q_load rfl sc_9 rfl (i := 8) rfl rfl)) ?_
      refine RN.qq rfl rfl rfl rfl (PRun.q (p_len_s rfl Try.underlying9 rfl)) ?_
      refine RN.qq rfl rfl rfl rfl (PRun.q (p_assign rfl (by conv => lhs; whnf))) ?_
      refine RN.nil ?_
      refine hK23 _ _ ?_
      refine T.cut (G := Nat) (fun k => k ≤ x.n.toNat * 32 ∧ k ≤ x.data.length ∧ (padN (x.n.toNat * 32) x.data).take k = x.data.take k) (fun k => [(4, ptr b4 0), (7, ptr a7 0), (8, .int .i64 0), (15, strV (padN (x.n.toNat * 32) x.data)), (16, intV k)]) (fun k => [row a7 75 [slc p7 0 e2.length cap7], row p7 49 (e2.map Sec.hdr ++ rest7), sep (e2.map (Sec.own 5)), row a9 75 [slc p9 0 f2.length cap9], row p9 49 (f2.map Sec.hdr ++ rest9), sep (f2.map (Sec.own 5)), row b4 35 x.cells, row b5 35 y.cells, Fr]) ?_ ?_
      ·
        refine T.seq fun K25 hK25 => ?_
        refine T.region (l := [0, 1, 2, 3]) rfl ?_
        refine RN.qq rfl rfl rfl rfl (PRun.q (p_move rfl (by conv => lhs; whnf))) ?_
        refine RN.qq rfl rfl rfl rfl (PRun.q (p_move rfl (by conv => lhs; whnf))) ?_
        refine RN.qq rfl rfl rfl rfl (PRun.q (p_len_s rfl Try.underlying9 rfl)) ?_
        refine RN.qq rfl rfl rfl rfl (PRun.q (p_gtr rfl rfl rfl)) ?_
        refine RN.nil ?_
        refine hK25 _ _ ?_
        first | refine T.cond_dec rfl (fun h154 => ?_) (fun h154 => ?_) | refine T.cond rfl (fun h154 => ?_) (fun h154 => ?_)
        ·
          refine T.region (l := [0, 1, 2]) rfl ?_
          refine RN.qq rfl rfl rfl rfl (PRun.q (p_move rfl (by conv => lhs; whnf))) ?_
          refine RN.qq rfl rfl rfl rfl (PRun.q (p_len_s rfl Try.underlying9 rfl)) ?_
          refine RN.qq rfl rfl rfl rfl (PRun.q (p_assign rfl (by conv => lhs; whnf))) ?_
          refine RN.nil ?_
          refine ⟨(padN (x.n.toNat * 32) x.data).length, ⟨by omega, by omega, pad_take (by omega) (by omega)⟩, (LiveIs.cons rfl (LiveIs.cons rfl (LiveIs.cons rfl (LiveIs.cons rfl (LiveIs.cons rfl LiveIs.nil))))), Ent.refl _⟩
        ·
          refine T.skip ?_
          refine ⟨x.data.length, ⟨by omega, by omega, pad_take (by omega) (by omega)⟩, (LiveIs.cons rfl (LiveIs.cons rfl (LiveIs.cons rfl (LiveIs.cons rfl (LiveIs.cons rfl LiveIs.nil))))), Ent.refl _⟩
      ·
        rintro k e24 ⟨hk1, hk2, hk3⟩
        refine T.seq fun K26 hK26 => ?_
        refine T.seq fun K27 hK27 => ?_
        refine T.regionD (z := 21) (Bs := [row b4 35 x.cells]) (l := [(0, .pure), (1, .pure), (2, .pure), (3, .pure), (4, .pure), (5, .pure), (6, .pure), (7, .load), (8, .pure), (9, .pure), (10, .pure), (11, .pure), (12, .pure), (13, .pure), (14, .pure), (15, .load), (16, .pure), (17, .load), (18, .eff), (19, .pure), (20, .pure)]) mixed (by kernel_rfl) (by first | exact Ent.refl _ | exact Ent.pull_drop (is := [0]) rfl | exact Ent.pull_drop (is := [1]) rfl | exact Ent.pull_drop (is := [2]) rfl | exact Ent.pull_drop (is := [3]) rfl | exact Ent.pull_drop (is := [4]) rfl | exact Ent.pull_drop (is := [5]) rfl | exact Ent.pull_drop (is := [6]) rfl | exact Ent.pull_drop (is := [7]) rfl) ?_
        refine RD.pp rfl rfl rfl rfl (p_move rfl (by conv => lhs; whnf)) ?_
        refine RD.pp rfl rfl rfl rfl (p_neq rfl rfl rfl) ?_
        refine RD.pp rfl rfl rfl rfl (p_move rfl (by conv => lhs; whnf)) ?_
        refine RD.known 159 rfl (show _ = Value.bool false from rfl) ?_
        refine RD.pp rfl rfl rfl rfl (p_move rfl (by conv => lhs; whnf)) ?_
        refine RD.pp rfl rfl rfl rfl (p_move rfl (by conv => lhs; whnf)) ?_
        refine RD.pp rfl rfl rfl rfl (by first | exact (p_slice_s_hi rfl Try.underlying9 rfl rfl (by omega)) | exact (p_sliceN_s (l := 0) rfl Try.underlying9 rfl rfl rfl (by omega)) | exact (p_slice_s rfl Try.underlying9 rfl rfl rfl (by omega))) ?_
        refine RD.pp rfl rfl rfl rfl (p_fieldAddr rfl fa_35_3 rfl) ?_
        refine RD.qq rfl rfl rfl rfl (by first | exact (q_load rfl sc_9 rfl (i := 0) rfl rfl) | exact (q_load rfl sc_9 rfl (i := 1) rfl rfl) | exact (q_load rfl sc_9 rfl (i := 2) rfl rfl) | exact (q_load rfl sc_9 rfl (i := 3) rfl rfl) | exact (q_load rfl sc_9 rfl (i := 4) rfl rfl) | exact (q_load rfl sc_9 rfl (i := 5) rfl rfl) | exact (q_load rfl sc_9 rfl (i := 6) rfl rfl) | exact (q_load rfl sc_9 rfl (i := 7) rfl rfl) | exact (q_load rfl sc_9 rfl (i := 8) rfl rfl)) (by first | exact Ent.refl _ | exact Ent.pull_drop (is := [0]) rfl | exact Ent.pull_drop (is := [1]) rfl | exact Ent.pull_drop (is := [2]) rfl | exact Ent.pull_drop (is := [3]) rfl | exact Ent.pull_drop (is := [4]) rfl | exact Ent.pull_drop (is := [5]) rfl | exact Ent.pull_drop (is := [6]) rfl | exact Ent.pull_drop (is := [7]) rfl) ?_
        refine RD.pp rfl rfl rfl rfl (p_move rfl (by conv => lhs; whnf)) ?_
        refine RD.pp rfl rfl rfl rfl (by first | exact (p_slice_s_hi rfl Try.underlying9 rfl rfl (by omega)) | exact (p_sliceN_s (l := 0) rfl Try.underlying9 rfl rfl rfl (by omega)) | exact (p_slice_s rfl Try.underlying9 rfl rfl rfl (by omega))) ?_
        refine RD.pp rfl rfl rfl rfl (p_sneq rfl rfl rfl) ?_
        refine RD.pp rfl rfl rfl rfl (p_pick_f rfl rfl (by conv => lhs; whnf)) ?_
        refine RD.pp rfl rfl rfl rfl (p_move rfl (by conv => lhs; whnf)) ?_
        refine RD.known 169 rfl (show _ = Value.bool false from congrArg Value.bool (decide_eq_false (not_not_intro hk3))) ?_
        refine RD.pp rfl rfl rfl rfl (p_move rfl (by conv => lhs; whnf)) ?_
        refine RD.pp rfl rfl rfl rfl (p_fieldAddr rfl fa_35_1 rfl) ?_
        refine RD.qq rfl rfl rfl rfl (by first | exact (q_load rfl sc_3 rfl (i := 0) rfl rfl) | exact (q_load rfl sc_3 rfl (i := 1) rfl rfl) | exact (q_load rfl sc_3 rfl (i := 2) rfl rfl) | exact (q_load rfl sc_3 rfl (i := 3) rfl rfl) | exact (q_load rfl sc_3 rfl (i := 4) rfl rfl) | exact (q_load rfl sc_3 rfl (i := 5) rfl rfl) | exact (q_load rfl sc_3 rfl (i := 6) rfl rfl) | exact (q_load rfl sc_3 rfl (i := 7) rfl rfl) | exact (q_load rfl sc_3 rfl (i := 8) rfl rfl)) (by first | exact Ent.refl _ | exact Ent.pull_drop (is := [0]) rfl | exact Ent.pull_drop (is := [1]) rfl | exact Ent.pull_drop (is := [2]) rfl | exact Ent.pull_drop (is := [3]) rfl | exact Ent.pull_drop (is := [4]) rfl | exact Ent.pull_drop (is := [5]) rfl | exact Ent.pull_drop (is := [6]) rfl | exact Ent.pull_drop (is := [7]) rfl) ?_
        refine RD.pp rfl rfl rfl rfl (p_fieldAddr rfl fa_35_2 rfl) ?_
        refine RD.qq rfl rfl rfl rfl (by first | exact (q_load rfl sc_3 rfl (i := 0) rfl rfl) | exact (q_load rfl sc_3 rfl (i := 1) rfl rfl) | exact (q_load rfl sc_3 rfl (i := 2) rfl rfl) | exact (q_load rfl sc_3 rfl (i := 3) rfl rfl) | exact (q_load rfl sc_3 rfl (i := 4) rfl rfl) | exact (q_load rfl sc_3 rfl (i := 5) rfl rfl) | exact (q_load rfl sc_3 rfl (i := 6) rfl rfl) | exact (q_load rfl sc_3 rfl (i := 7) rfl rfl) | exact (q_load rfl sc_3 rfl (i := 8) rfl rfl)) (by first | exact Ent.refl _ | exact Ent.pull_drop (is := [0]) rfl | exact Ent.pull_drop (is := [1]) rfl | exact Ent.pull_drop (is := [2]) rfl | exact Ent.pull_drop (is := [3]) rfl | exact Ent.pull_drop (is := [4]) rfl | exact Ent.pull_drop (is := [5]) rfl | exact Ent.pull_drop (is := [6]) rfl | exact Ent.pull_drop (is := [7]) rfl) ?_
        refine RD.C [0, 0, 0] rfl rfl rfl rfl (c_call rfl rfl) (Trim_spec a7 p7 cap7 e2 rest7 x.lba x.n hoke2 (by omega)) rfl (by rintro _ _ ⟨_, _, _, _, rfl⟩; exact .inl (by first | exact Ent.refl _ | exact Ent.pull_drop (is := [0]) rfl | exact Ent.pull_drop (is := [1]) rfl | exact Ent.pull_drop (is := [2]) rfl | exact Ent.pull_drop (is := [3]) rfl | exact Ent.pull_drop (is := [4]) rfl | exact Ent.pull_drop (is := [5]) rfl | exact Ent.pull_drop (is := [6]) rfl | exact Ent.pull_drop (is := [7]) rfl)) ?_
        rintro v175 _ ⟨hv175, g1, hokg1, hbg1, rfl⟩
        rw [hle2, if_pos hR] at hv175
        subst hv175
        have hwg1 : bytesOf g1 = wrI (bytesOf e2) sz x.lba x.n [] := by rw [hbg1, hle2]; rfl
        have hlg1 : g1.length = sz := by rw [bytes_len, hwg1, wrI_length, ← bytes_len]; exact hle2
        have hread2 : cat ((g1.drop x.lba.toNat).take x.n.toNat) = List.replicate (x.n.toNat * 32) 0 := by
          have hz := read_back (xs := bytesOf e2) (data := []) (by rw [← bytes_len, hle2]; exact hR)
          rw [← bytes_len, hle2, ← hwg1, pad_nil] at hz
          rw [bytes_mid]; exact hz
        refine RD.pp rfl rfl rfl rfl (p_neq rfl rfl rfl) ?_
        refine RD.pp rfl rfl rfl rfl (p_pick_f rfl rfl (by conv => lhs; whnf)) ?_
        refine RD.nil ?_
        refine hK27 _ _ ?_
        refine T.known 177 rfl (show _ = Value.bool false from rfl) ?_
        refine T.cond_f rfl ?_
        refine T.skip ?_
        refine hK26 _ _ ?_
        refine T.seq fun K28 hK28 => ?_
        refine T.region (l := [0, 1, 2, 3, 4, 5, 6, 7, 8, 9, 10]) rfl ?_
        refine RN.qq rfl rfl rfl rfl (PRun.q (p_move rfl (by conv => lhs; whnf))) ?_
        refine RN.qq rfl rfl rfl rfl (PRun.q (p_fieldAddr rfl fa_35_1 rfl)) ?_
        refine RN.qq rfl rfl rfl rfl (by first | exact (q_load rfl sc_3 rfl (i := 0) rfl rfl) | exact (q_load rfl sc_3 rfl (i := 1) rfl rfl) | exact (q_load rfl sc_3 rfl (i := 2) rfl rfl) | exact (q_load rfl sc_3 rfl (i := 3) rfl rfl) | exact (q_load rfl sc_3 rfl (i := 4) rfl rfl) | exact (q_load rfl sc_3 rfl (i := 5) rfl rfl) | exact (q_load rfl sc_3 rfl (i := 6) rfl rfl) | exact (q_load rfl sc_3 rfl (i := 7) rfl rfl) | exact (q_load rfl sc_3 rfl (i := 8) rfl rfl)) ?_
        refine RN.qq rfl rfl rfl rfl (PRun.q (p_fieldAddr rfl fa_35_2 rfl)) ?_
        refine RN.qq rfl rfl rfl rfl (by first | exact (q_load rfl sc_3 rfl (i := 0) rfl rfl) | exact (q_load rfl sc_3 rfl (i := 1) rfl rfl) | exact (q_load rfl sc_3 rfl (i := 2) rfl rfl) | exact (q_load rfl sc_3 rfl (i := 3) rfl rfl) | exact (q_load rfl sc_3 rfl (i := 4) rfl rfl) | exact (q_load rfl sc_3 rfl (i := 5) rfl rfl) | exact (q_load rfl sc_3 rfl (i := 6) rfl rfl) | exact (q_load rfl sc_3 rfl (i := 7) rfl rfl) | exact (q_load rfl sc_3 rfl (i := 8) rfl rfl)) ?_
        refine RN.C [0, 0, 0] rfl rfl rfl rfl (c_call rfl rfl) (Read_spec a7 p7 cap7 g1 rest7 x.lba x.n hokg1 (by omega) (by omega)) rfl ?_
        rintro v184 _ ⟨hv184, rfl⟩
        rw [hlg1, if_pos hR, if_pos hR, hread2] at hv184
        subst hv184
        refine RN.qq rfl rfl rfl rfl (PRun.q (p_move rfl (by conv => lhs; whnf))) ?_
        refine RN.qq rfl rfl rfl rfl (PRun.q (p_extract rfl rfl rfl)) ?_
        refine RN.qq rfl rfl rfl rfl (PRun.q (p_extract rfl rfl rfl)) ?_
        refine RN.qq rfl rfl rfl rfl (PRun.q (p_assign rfl (by conv => lhs; whnf))) ?_
        refine RN.qq rfl rfl rfl rfl (PRun.q (p_assign rfl (by conv => lhs; whnf))) ?_
        refine RN.nil ?_
        refine hK28 _ _ ?_
        refine T.seq fun K29 hK29 => ?_
        refine T.seq fun K30 hK30 => ?_
        refine T.region (l := [0]) rfl ?_
        refine RN.qq rfl rfl rfl rfl (PRun.q (p_assign rfl (by conv => lhs; whnf))) ?_
        refine RN.nil ?_
        refine hK30 _ _ ?_
        refine T.block ?_
        refine T.loop (G := Nat) (fun i => i ≤ x.n.toNat * 32) (fun i => [(4, ptr b4 0), (8, .int .i64 0), (15, strV (List.replicate (x.n.toNat * 32) 0)), (17, intV i)]) (fun i => [row b4 35 x.cells, Fr]) (fun i => x.n.toNat * 32 - i) 0 (Nat.zero_le _) (LiveIs.cons rfl (LiveIs.cons rfl (LiveIs.cons rfl (LiveIs.cons rfl LiveIs.nil)))) (Ent.pull_drop (is := [6, 7]) rfl) ?_
        rintro i e31 hik
        refine T.seq fun K32 hK32 => ?_
        refine T.seq fun K33 hK33 => ?_
        refine T.region (l := [0, 1, 2, 3]) rfl ?_
        refine RN.qq rfl rfl rfl rfl (PRun.q (p_move rfl (by conv => lhs; whnf))) ?_
        refine RN.qq rfl rfl rfl rfl (PRun.q (p_move rfl (by conv => lhs; whnf))) ?_
        refine RN.qq rfl rfl rfl rfl (PRun.q (p_len_s rfl Try.underlying9 rfl)) ?_
        refine RN.qq rfl rfl rfl rfl (PRun.q (p_lss rfl rfl rfl)) ?_
        refine RN.nil ?_
        refine hK33 _ _ ?_
        first | refine T.cond_dec rfl (fun h190 => ?_) (fun h190 => ?_) | refine T.cond rfl (fun h190 => ?_) (fun h190 => ?_)
        ·
          have hi : i < x.n.toNat * 32 := by rw [List.length_replicate] at h190; omega
          refine T.skip ?_
          refine hK32 _ _ ?_
          refine T.seq fun K34 hK34 => ?_
          refine T.block ?_
          refine T.seq fun K35 hK35 => ?_
          refine T.region (l := [0, 1, 2, 3]) rfl ?_
          refine RN.qq rfl rfl rfl rfl (PRun.q (p_move rfl (by conv => lhs; whnf))) ?_
          refine RN.qq rfl rfl rfl rfl (PRun.q (p_move rfl (by conv => lhs; whnf))) ?_
          refine RN.qq rfl rfl rfl rfl (PRun.q (by first | exact (p_indexN_s rfl Try.underlying9 rfl rfl (show (List.replicate (x.n.toNat * 32) (0 : UInt8))[i]? = some 0 from by rw [List.getElem?_replicate, if_pos hi])) | exact (p_index_s rfl Try.underlying9 rfl rfl (show (List.replicate (x.n.toNat * 32) (0 : UInt8))[i]? = some 0 from by rw [List.getElem?_replicate, if_pos hi])))) ?_
          refine RN.qq rfl rfl rfl rfl (PRun.q (p_neq rfl rfl rfl)) ?_
          refine RN.nil ?_
          refine hK35 _ _ ?_
          refine T.known 196 rfl (show _ = Value.bool false from rfl) ?_
          refine T.cond_f rfl ?_
          refine T.skip ?_
          refine hK34 _ _ ?_
          refine T.region (l := [0, 1, 2]) rfl ?_
          refine RN.qq rfl rfl rfl rfl (PRun.q (p_move rfl (by conv => lhs; whnf))) ?_
          refine RN.qq rfl rfl rfl rfl (PRun.q (by first | exact (p_addN (b := 1) rfl rfl rfl (by omega)) | exact (p_add rfl rfl rfl (by omega)))) ?_
          refine RN.qq rfl rfl rfl rfl (PRun.q (p_assign rfl (by conv => lhs; whnf))) ?_
          refine RN.nil ?_
          refine ⟨i + 1, (by omega), (by omega), (LiveIs.cons rfl (LiveIs.cons rfl (LiveIs.cons rfl (LiveIs.cons rfl LiveIs.nil)))), (Ent.refl _)⟩
        ·
          refine T.exit ?_
          refine Post.seq_x ?_
          refine Post.seq_x ?_
          refine Post.block_hit ?_
          refine hK29 _ _ ?_
          refine T.seq fun K36 hK36 => ?_
          refine T.region (l := [0, 1, 2, 3, 4, 5, 6, 7, 8, 9, 10]) rfl ?_
          refine RN.qq rfl rfl rfl rfl (PRun.q (p_move rfl (by conv => lhs; whnf))) ?_
          refine RN.qq rfl rfl rfl rfl (PRun.q (p_eql rfl rfl rfl)) ?_
          refine RN.qq rfl rfl rfl rfl (PRun.q (p_move rfl (by conv => lhs; whnf))) ?_
          refine RN.known 199 rfl (show _ = Value.bool true from rfl) ?_
          refine RN.qq rfl rfl rfl rfl (PRun.q (p_move rfl (by conv => lhs; whnf))) ?_
          refine RN.qq rfl rfl rfl rfl (PRun.q (p_len_s rfl Try.underlying9 rfl)) ?_
          refine RN.qq rfl rfl rfl rfl (PRun.q (p_fieldAddr rfl fa_35_2 rfl)) ?_
          refine RN.qq rfl rfl rfl rfl (by first | exact (q_load rfl sc_3 rfl (i := 0) rfl rfl) | exact (q_load rfl sc_3 rfl (i := 1) rfl rfl) | exact (q_load rfl sc_3 rfl (i := 2) rfl rfl) | exact (q_load rfl sc_3 rfl (i := 3) rfl rfl) | exact (q_load rfl sc_3 rfl (i := 4) rfl rfl) | exact (q_load rfl sc_3 rfl (i := 5) rfl rfl) | exact (q_load rfl sc_3 rfl (i := 6) rfl rfl) | exact (q_load rfl sc_3 rfl (i := 7) rfl rfl) | exact (q_load rfl sc_3 rfl (i := 8) rfl rfl)) ?_
          refine RN.qq rfl rfl rfl rfl (PRun.q (by first | exact (p_mulN (b := 32) rfl rfl rfl (by omega)) | exact (p_mul rfl rfl rfl (by omega)))) ?_
          refine RN.qq rfl rfl rfl rfl (PRun.q (p_eql rfl rfl rfl)) ?_
          refine RN.qq rfl rfl rfl rfl (PRun.q (p_pick_t rfl rfl (by conv => lhs; whnf))) ?_
          refine RN.qq rfl rfl rfl rfl (PRun.q (p_assign rfl (by conv => lhs; whnf))) ?_
          refine RN.nil ?_
          refine hK36 _ _ ?_
          refine T.ret ?_
          refine bodyQ_ret [] (RetRun.tmp RetRun.nil) ⟨congrArg Value.bool (decide_eq_true (by simp; omega)), rfl⟩ (Ent.pull_drop (is := [1]) rfl)

end Go.Proofs.Yticfabhcfdmbjaa
