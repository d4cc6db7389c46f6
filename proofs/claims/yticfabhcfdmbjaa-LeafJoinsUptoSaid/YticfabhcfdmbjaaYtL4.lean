/-
  Walks of leaf.
-/
import Derived.Test.YticfabhcfdmbjaaYtL3
set_option linter.unusedVariables false
set_option linter.unusedSimpArgs false
namespace Go.Proofs.Yticfabhcfdmbjaa
open Go Go.Sl Go.Proofs
set_option maxRecDepth 20000
open Go.Mo
theorem same_spec (k1 e1 g1 k2 e2 g2 : Int) (A : Assn) (v1 v2 : Value) (l1 l2 : List UInt8) (h1 : Ent A (view 1 v1 l1.length (l1.map u8V))) (h2 : Ent A (view 1 v2 l2.length (l2.map u8V))) : Ctr Try.prog 29 [.agg (strm k1 e1 g1 v1).toArray, .agg (strm k2 e2 g2 v2).toArray] [A] (fun v Ps => v = .bool (decide (k1 = k2 ∧ e1 = e2 ∧ g1 = g2 ∧ l1 = l2)) ∧ Ps = [A]) := by
  refine Ctr.of_body Try.func29 rfl (by kernel_rfl) Try.ntmps29 rfl rfl (fun Fr => ?_)
  refine T.seq fun K1 hK1 => ?_
  refine T.region (l := [0, 1, 2]) rfl ?_
  refine RN.E rfl rfl rfl rfl (e_box rfl rfl rfl) ?_
  rintro _ _ ⟨b2, rfl, rfl⟩
  refine RN.E rfl rfl rfl rfl (e_box rfl rfl rfl) ?_
  rintro _ _ ⟨b3, rfl, rfl⟩
  refine RN.qq rfl rfl rfl rfl (PRun.q (p_assign rfl (by conv => lhs; whnf))) ?_
  refine RN.nil ?_
  refine hK1 _ _ ?_
  refine T.seq fun K2 hK2 => ?_
  refine T.region (l := [0, 1, 2, 3, 4, 5, 6, 7, 8, 9, 10, 11, 12, 13, 14, 15, 16, 17, 18, 19, 20, 21, 22, 23, 24, 25, 26, 27, 28]) rfl ?_
  refine RN.qq rfl rfl rfl rfl (PRun.q (p_fieldAddr rfl fa_51_0 rfl)) ?_
  refine RN.qq rfl rfl rfl rfl (by first | exact (q_load rfl sc_3 rfl (i := 0) rfl rfl) | exact (q_load rfl sc_3 rfl (i := 1) rfl rfl) | exact (q_load rfl sc_3 rfl (i := 2) rfl rfl) | exact (q_load rfl sc_3 rfl (i := 3) rfl rfl) | exact (q_load rfl sc_3 rfl (i := 4) rfl rfl)) ?_
  refine RN.qq rfl rfl rfl rfl (PRun.q (p_fieldAddr rfl fa_57_0 rfl)) ?_
  refine RN.qq rfl rfl rfl rfl (by first | exact (q_load rfl sc_3 rfl (i := 0) rfl rfl) | exact (q_load rfl sc_3 rfl (i := 1) rfl rfl) | exact (q_load rfl sc_3 rfl (i := 2) rfl rfl) | exact (q_load rfl sc_3 rfl (i := 3) rfl rfl) | exact (q_load rfl sc_3 rfl (i := 4) rfl rfl)) ?_
  refine RN.qq rfl rfl rfl rfl (PRun.q (p_eql rfl rfl rfl)) ?_
  refine RN.qq rfl rfl rfl rfl (PRun.q (p_move rfl (by conv => lhs; whnf))) ?_
  first | refine RN.split_dec 10 rfl (fun h10 => ?_) (fun h10 => ?_) | refine RN.split 10 rfl (fun h10 => ?_) (fun h10 => ?_)
  ·
    refine RN.qq rfl rfl rfl rfl (PRun.q (p_fieldAddr rfl fa_51_1 rfl)) ?_
    refine RN.qq rfl rfl rfl rfl (by first | exact (q_load rfl sc_48 rfl (i := 0) rfl rfl) | exact (q_load rfl sc_48 rfl (i := 1) rfl rfl) | exact (q_load rfl sc_48 rfl (i := 2) rfl rfl) | exact (q_load rfl sc_48 rfl (i := 3) rfl rfl) | exact (q_load rfl sc_48 rfl (i := 4) rfl rfl)) ?_
    refine RN.qq rfl rfl rfl rfl (PRun.q (p_fieldAddr rfl fa_57_1 rfl)) ?_
    refine RN.qq rfl rfl rfl rfl (by first | exact (q_load rfl sc_48 rfl (i := 0) rfl rfl) | exact (q_load rfl sc_48 rfl (i := 1) rfl rfl) | exact (q_load rfl sc_48 rfl (i := 2) rfl rfl) | exact (q_load rfl sc_48 rfl (i := 3) rfl rfl) | exact (q_load rfl sc_48 rfl (i := 4) rfl rfl)) ?_
    refine RN.qq rfl rfl rfl rfl (PRun.q (p_eql rfl rfl rfl)) ?_
    refine RN.qq rfl rfl rfl rfl (PRun.q (p_pick_t rfl rfl (by conv => lhs; whnf))) ?_
    refine RN.qq rfl rfl rfl rfl (PRun.q (p_move rfl (by conv => lhs; whnf))) ?_
    first | refine RN.split_dec 17 rfl (fun h17 => ?_) (fun h17 => ?_) | refine RN.split 17 rfl (fun h17 => ?_) (fun h17 => ?_)
    ·
      refine RN.qq rfl rfl rfl rfl (PRun.q (p_fieldAddr rfl fa_51_2 rfl)) ?_
      refine RN.qq rfl rfl rfl rfl (by first | exact (q_load rfl sc_48 rfl (i := 0) rfl rfl) | exact (q_load rfl sc_48 rfl (i := 1) rfl rfl) | exact (q_load rfl sc_48 rfl (i := 2) rfl rfl) | exact (q_load rfl sc_48 rfl (i := 3) rfl rfl) | exact (q_load rfl sc_48 rfl (i := 4) rfl rfl)) ?_
      refine RN.qq rfl rfl rfl rfl (PRun.q (p_fieldAddr rfl fa_57_2 rfl)) ?_
      refine RN.qq rfl rfl rfl rfl (by first | exact (q_load rfl sc_48 rfl (i := 0) rfl rfl) | exact (q_load rfl sc_48 rfl (i := 1) rfl rfl) | exact (q_load rfl sc_48 rfl (i := 2) rfl rfl) | exact (q_load rfl sc_48 rfl (i := 3) rfl rfl) | exact (q_load rfl sc_48 rfl (i := 4) rfl rfl)) ?_
      refine RN.qq rfl rfl rfl rfl (PRun.q (p_eql rfl rfl rfl)) ?_
      refine RN.qq rfl rfl rfl rfl (PRun.q (p_pick_t rfl rfl (by conv => lhs; whnf))) ?_
      refine RN.qq rfl rfl rfl rfl (PRun.q (p_move rfl (by conv => lhs; whnf))) ?_
      first | refine RN.split_dec 24 rfl (fun h24 => ?_) (fun h24 => ?_) | refine RN.split 24 rfl (fun h24 => ?_) (fun h24 => ?_)
      ·
        refine RN.qq rfl rfl rfl rfl (PRun.q (p_fieldAddr rfl fa_51_3 rfl)) ?_
        refine RN.qq rfl rfl rfl rfl (by first | exact (q_load rfl sc_49 rfl (i := 0) rfl rfl) | exact (q_load rfl sc_49 rfl (i := 1) rfl rfl) | exact (q_load rfl sc_49 rfl (i := 2) rfl rfl) | exact (q_load rfl sc_49 rfl (i := 3) rfl rfl) | exact (q_load rfl sc_49 rfl (i := 4) rfl rfl)) ?_
        refine RN.qq rfl rfl rfl rfl (QRun.ent ((Ent.pull_drop (is := [2]) rfl).trans (Ent.cons h1 (Ent.refl _))) (q_bytes_view rfl Try.underlying49 Try.underlying5 Try.underlying9 rfl (i := 0) rfl)) ?_
        refine RN.qq rfl rfl rfl rfl (PRun.q (p_fieldAddr rfl fa_57_3 rfl)) ?_
        refine RN.qq rfl rfl rfl rfl (by first | exact (q_load rfl sc_49 rfl (i := 0) rfl rfl) | exact (q_load rfl sc_49 rfl (i := 1) rfl rfl) | exact (q_load rfl sc_49 rfl (i := 2) rfl rfl) | exact (q_load rfl sc_49 rfl (i := 3) rfl rfl) | exact (q_load rfl sc_49 rfl (i := 4) rfl rfl)) ?_
        refine RN.qq rfl rfl rfl rfl (QRun.ent ((Ent.pull_drop (is := [2]) rfl).trans (Ent.cons h2 (Ent.refl _))) (q_bytes_view rfl Try.underlying49 Try.underlying5 Try.underlying9 rfl (i := 0) rfl)) ?_
        refine RN.qq rfl rfl rfl rfl (PRun.q (p_seql rfl rfl rfl)) ?_
        refine RN.qq rfl rfl rfl rfl (PRun.q (p_pick_t rfl rfl (by conv => lhs; whnf))) ?_
        refine RN.qq rfl rfl rfl rfl (PRun.q (p_assign rfl (by conv => lhs; whnf))) ?_
        refine RN.nil ?_
        refine hK2 _ _ ?_
        refine T.ret ?_
        refine bodyQ_ret [A] (RetRun.tmp RetRun.nil) ⟨congrArg Value.bool (by simp [h10, h17, h24]), rfl⟩ (Ent.pull_drop (is := [2, 2]) rfl)
      ·
        refine RN.O rfl rfl rfl rfl ?_
        refine RN.O rfl rfl rfl rfl ?_
        refine RN.O rfl rfl rfl rfl ?_
        refine RN.O rfl rfl rfl rfl ?_
        refine RN.O rfl rfl rfl rfl ?_
        refine RN.O rfl rfl rfl rfl ?_
        refine RN.O rfl rfl rfl rfl ?_
        refine RN.qq rfl rfl rfl rfl (PRun.q (p_pick_f rfl rfl (by conv => lhs; whnf))) ?_
        refine RN.qq rfl rfl rfl rfl (PRun.q (p_assign rfl (by conv => lhs; whnf))) ?_
        refine RN.nil ?_
        refine hK2 _ _ ?_
        refine T.ret ?_
        refine bodyQ_ret [A] (RetRun.tmp RetRun.nil) ⟨congrArg Value.bool (decide_eq_false (fun h => h24 h.2.2.1)).symm, rfl⟩ (Ent.pull_drop (is := [2, 2]) rfl)
    ·
      refine RN.O rfl rfl rfl rfl ?_
      refine RN.O rfl rfl rfl rfl ?_
      refine RN.O rfl rfl rfl rfl ?_
      refine RN.O rfl rfl rfl rfl ?_
      refine RN.O rfl rfl rfl rfl ?_
      refine RN.qq rfl rfl rfl rfl (PRun.q (p_pick_f rfl rfl (by conv => lhs; whnf))) ?_
      refine RN.qq rfl rfl rfl rfl (PRun.q (p_move rfl (by conv => lhs; whnf))) ?_
      refine RN.O rfl rfl rfl rfl ?_
      refine RN.O rfl rfl rfl rfl ?_
      refine RN.O rfl rfl rfl rfl ?_
      refine RN.O rfl rfl rfl rfl ?_
      refine RN.O rfl rfl rfl rfl ?_
      refine RN.O rfl rfl rfl rfl ?_
      refine RN.O rfl rfl rfl rfl ?_
      refine RN.qq rfl rfl rfl rfl (PRun.q (p_pick_f rfl rfl (by conv => lhs; whnf))) ?_
      refine RN.qq rfl rfl rfl rfl (PRun.q (p_assign rfl (by conv => lhs; whnf))) ?_
      refine RN.nil ?_
      refine hK2 _ _ ?_
      refine T.ret ?_
      refine bodyQ_ret [A] (RetRun.tmp RetRun.nil) ⟨congrArg Value.bool (decide_eq_false (fun h => h17 h.2.1)).symm, rfl⟩ (Ent.pull_drop (is := [2, 2]) rfl)
  ·
    refine RN.O rfl rfl rfl rfl ?_
    refine RN.O rfl rfl rfl rfl ?_
    refine RN.O rfl rfl rfl rfl ?_
    refine RN.O rfl rfl rfl rfl ?_
    refine RN.O rfl rfl rfl rfl ?_
    refine RN.qq rfl rfl rfl rfl (PRun.q (p_pick_f rfl rfl (by conv => lhs; whnf))) ?_
    refine RN.qq rfl rfl rfl rfl (PRun.q (p_move rfl (by conv => lhs; whnf))) ?_
    refine RN.O rfl rfl rfl rfl ?_
    refine RN.O rfl rfl rfl rfl ?_
    refine RN.O rfl rfl rfl rfl ?_
    refine RN.O rfl rfl rfl rfl ?_
    refine RN.O rfl rfl rfl rfl ?_
    refine RN.qq rfl rfl rfl rfl (PRun.q (p_pick_f rfl rfl (by conv => lhs; whnf))) ?_
    refine RN.qq rfl rfl rfl rfl (PRun.q (p_move rfl (by conv => lhs; whnf))) ?_
    refine RN.O rfl rfl rfl rfl ?_
    refine RN.O rfl rfl rfl rfl ?_
    refine RN.O rfl rfl rfl rfl ?_
    refine RN.O rfl rfl rfl rfl ?_
    refine RN.O rfl rfl rfl rfl ?_
    refine RN.O rfl rfl rfl rfl ?_
    refine RN.O rfl rfl rfl rfl ?_
    refine RN.qq rfl rfl rfl rfl (PRun.q (p_pick_f rfl rfl (by conv => lhs; whnf))) ?_
    refine RN.qq rfl rfl rfl rfl (PRun.q (p_assign rfl (by conv => lhs; whnf))) ?_
    refine RN.nil ?_
    refine hK2 _ _ ?_
    refine T.ret ?_
    refine bodyQ_ret [A] (RetRun.tmp RetRun.nil) ⟨congrArg Value.bool (decide_eq_false (fun h => h10 h.1)).symm, rfl⟩ (Ent.pull_drop (is := [2, 2]) rfl)

theorem Or_spec (b c : Nat) (xs : List Int) (hx : xs.length ≤ 65536) : Ctr Try.prog 41 [slc b 0 xs.length c] [row b 3 (xs.map iV)] (fun v Ps => v = iV (firstNZ xs) ∧ Ps = [row b 3 (xs.map iV)]) := by
  refine Ctr.of_body Try.func41 rfl (by kernel_rfl) Try.ntmps41 rfl rfl (fun Fr => ?_)
  refine T.seq fun K1 hK1 => ?_
  refine T.region (l := [0]) rfl ?_
  refine RN.qq rfl rfl rfl rfl (PRun.q (p_assign rfl (by conv => lhs; whnf))) ?_
  refine RN.nil ?_
  refine hK1 _ _ ?_
  refine T.seq fun K2 hK2 => ?_
  refine T.region (l := [0]) rfl ?_
  refine RN.qq rfl rfl rfl rfl (PRun.q (p_assign rfl (by conv => lhs; whnf))) ?_
  refine RN.nil ?_
  refine hK2 _ _ ?_
  refine T.seq fun K3 hK3 => ?_
  refine T.seq fun K4 hK4 => ?_
  refine T.region (l := [0, 1, 2]) rfl ?_
  refine RN.qq rfl rfl rfl rfl (PRun.q (p_move rfl (by conv => lhs; whnf))) ?_
  refine RN.qq rfl rfl rfl rfl (PRun.q (p_len rfl Try.underlying40 rfl)) ?_
  refine RN.qq rfl rfl rfl rfl (PRun.q (p_move rfl (by conv => lhs; whnf))) ?_
  refine RN.nil ?_
  refine hK4 _ _ ?_
  refine T.block ?_
  refine T.loop (G := Nat) (fun k => k ≤ xs.length ∧ ∀ j (hj : j < k) (hj2 : j < xs.length), xs[j] = 0) (fun k => [(3, .int .i64 0), (6, slc b 0 xs.length c), (7, intV xs.length), (8, intV k)]) (fun k => [row b 3 (xs.map iV), Fr]) (fun k => xs.length - k) 0 ⟨Nat.zero_le _, fun j hj => by omega⟩ (LiveIs.cons rfl (LiveIs.cons rfl (LiveIs.cons rfl (LiveIs.cons rfl LiveIs.nil)))) (Ent.refl _) ?_
  rintro k e5 ⟨hkl, hz⟩
  refine T.seq fun K6 hK6 => ?_
  refine T.region (l := [0]) rfl ?_
  refine RN.qq rfl rfl rfl rfl (PRun.q (p_lss rfl rfl rfl)) ?_
  refine RN.nil ?_
  refine hK6 _ _ ?_
  refine T.seq fun K7 hK7 => ?_
  first | refine T.cond_dec rfl (fun h9 => ?_) (fun h9 => ?_) | refine T.cond rfl (fun h9 => ?_) (fun h9 => ?_)
  ·
    have hk : k < xs.length := by omega
    refine T.skip ?_
    refine hK7 _ _ ?_
    refine T.seq fun K8 hK8 => ?_
    refine T.block ?_
    refine T.seq fun K9 hK9 => ?_
    refine T.region (l := [0, 1, 2]) rfl ?_
    refine RN.qq rfl rfl rfl rfl (PRun.q (by first | exact (p_indexAddr1N rfl Try.underlying40 ts_3 rfl rfl (by omega)) | exact (p_indexAddr1 rfl Try.underlying40 ts_3 rfl rfl (by omega)))) ?_
    refine RN.qq rfl rfl rfl rfl (by first | exact (q_load rfl sc_3 rfl (i := 0) rfl (show (xs.map iV)[0 + k]? = some (iV xs[k]) from by rw [Nat.zero_add, List.getElem?_map, List.getElem?_eq_getElem hk]; rfl)) | exact (q_load rfl sc_3 rfl (i := 1) rfl (show (xs.map iV)[0 + k]? = some (iV xs[k]) from by rw [Nat.zero_add, List.getElem?_map, List.getElem?_eq_getElem hk]; rfl)) | exact (q_load rfl sc_3 rfl (i := 2) rfl (show (xs.map iV)[0 + k]? = some (iV xs[k]) from by rw [Nat.zero_add, List.getElem?_map, List.getElem?_eq_getElem hk]; rfl)) | exact (q_load rfl sc_3 rfl (i := 3) rfl (show (xs.map iV)[0 + k]? = some (iV xs[k]) from by rw [Nat.zero_add, List.getElem?_map, List.getElem?_eq_getElem hk]; rfl)) | exact (q_load rfl sc_3 rfl (i := 4) rfl (show (xs.map iV)[0 + k]? = some (iV xs[k]) from by rw [Nat.zero_add, List.getElem?_map, List.getElem?_eq_getElem hk]; rfl))) ?_
    refine RN.qq rfl rfl rfl rfl (PRun.q (p_assign rfl (by conv => lhs; whnf))) ?_
    refine RN.nil ?_
    refine hK9 _ _ ?_
    refine T.seq fun K10 hK10 => ?_
    refine T.region (l := [0, 1, 2]) rfl ?_
    refine RN.qq rfl rfl rfl rfl (PRun.q (p_move rfl (by conv => lhs; whnf))) ?_
    refine RN.qq rfl rfl rfl rfl (PRun.q (p_move rfl (by conv => lhs; whnf))) ?_
    refine RN.qq rfl rfl rfl rfl (PRun.q (p_neq rfl rfl rfl)) ?_
    refine RN.nil ?_
    refine hK10 _ _ ?_
    first | refine T.cond_dec rfl (fun h14 => ?_) (fun h14 => ?_) | refine T.cond rfl (fun h14 => ?_) (fun h14 => ?_)
    ·
      refine T.seq fun K11 hK11 => ?_
      refine T.region (l := [0, 1]) rfl ?_
      refine RN.qq rfl rfl rfl rfl (PRun.q (p_move rfl (by conv => lhs; whnf))) ?_
      refine RN.qq rfl rfl rfl rfl (PRun.q (p_assign rfl (by conv => lhs; whnf))) ?_
      refine RN.nil ?_
      refine hK11 _ _ ?_
      refine T.ret ?_
      refine Post.block_r ?_
      refine Post.seq_r ?_
      refine Post.seq_r ?_
      refine Post.block_r ?_
      refine Post.seq_r ?_
      refine bodyQ_ret [row b 3 (xs.map iV)] (RetRun.tmp RetRun.nil) ⟨congrArg iV (firstNZ_at hk (fun j hj => hz j hj (by omega)) h14).symm, rfl⟩ (Ent.refl _)
    ·
      refine T.skip ?_
      refine hK8 _ _ ?_
      refine T.region (l := [0, 1]) rfl ?_
      refine RN.qq rfl rfl rfl rfl (PRun.q (by first | exact (p_addN (b := 1) rfl rfl rfl (by omega)) | exact (p_add rfl rfl rfl (by omega)))) ?_
      refine RN.qq rfl rfl rfl rfl (PRun.q (p_move rfl (by conv => lhs; whnf))) ?_
      refine RN.nil ?_
      refine ⟨k + 1, ⟨by omega, zext hk hz (Classical.not_not.1 h14)⟩, (by omega), (LiveIs.cons rfl (LiveIs.cons rfl (LiveIs.cons rfl (LiveIs.cons rfl LiveIs.nil)))), Ent.refl _⟩
  ·
    have hk : k = xs.length := by omega
    subst hk
    refine T.exit ?_
    refine Post.seq_x ?_
    refine Post.seq_x ?_
    refine Post.block_hit ?_
    refine hK3 _ _ ?_
    refine T.seq fun K12 hK12 => ?_
    refine T.region (l := [0, 1]) rfl ?_
    refine RN.qq rfl rfl rfl rfl (PRun.q (p_move rfl (by conv => lhs; whnf))) ?_
    refine RN.qq rfl rfl rfl rfl (PRun.q (p_assign rfl (by conv => lhs; whnf))) ?_
    refine RN.nil ?_
    refine hK12 _ _ ?_
    refine T.ret ?_
    refine bodyQ_ret [row b 3 (xs.map iV)] (RetRun.tmp RetRun.nil) ⟨congrArg iV (firstNZ_zero (fun j hj => hz j hj hj)).symm, rfl⟩ (Ent.refl _)

theorem Clo_spec (x y : Ky) : Ctr Try.prog 40 [.agg x.cells.toArray, .agg y.cells.toArray] [] (fun v Ps => v = iV (cmpK x y) ∧ Ps = []) := by
  refine Ctr.of_body Try.func40 rfl (by kernel_rfl) Try.ntmps40 rfl rfl (fun Fr => ?_)
  refine T.seq fun K1 hK1 => ?_
  refine T.region (l := [0, 1, 2]) rfl ?_
  refine RN.E rfl rfl rfl rfl (e_box rfl rfl rfl) ?_
  rintro _ _ ⟨b2, rfl, rfl⟩
  refine RN.E rfl rfl rfl rfl (e_box rfl rfl rfl) ?_
  rintro _ _ ⟨b3, rfl, rfl⟩
  refine RN.qq rfl rfl rfl rfl (PRun.q (p_assign rfl (by conv => lhs; whnf))) ?_
  refine RN.nil ?_
  refine hK1 _ _ ?_
  refine T.seq fun K2 hK2 => ?_
  refine T.regionD (z := 18) (Bs := [row b2 85 x.cells, row b3 85 y.cells]) (l := [(0, .pure), (1, .load), (2, .pure), (3, .load), (5, .pure), (6, .load), (7, .pure), (8, .load), (10, .pure), (11, .load), (12, .pure), (13, .load), (4, .eff), (9, .eff), (14, .eff), (15, .eff), (16, .eff), (17, .pure)]) mixed (by kernel_rfl) (by first | exact Ent.refl _ | exact Ent.pull_drop (is := [0, 0]) rfl | exact Ent.pull_drop (is := [0, 1]) rfl | exact Ent.pull_drop (is := [0, 2]) rfl | exact Ent.pull_drop (is := [0, 3]) rfl | exact Ent.pull_drop (is := [0, 4]) rfl | exact Ent.pull_drop (is := [0, 5]) rfl | exact Ent.pull_drop (is := [0, 6]) rfl | exact Ent.pull_drop (is := [1, 0]) rfl | exact Ent.pull_drop (is := [1, 1]) rfl | exact Ent.pull_drop (is := [1, 2]) rfl | exact Ent.pull_drop (is := [1, 3]) rfl | exact Ent.pull_drop (is := [1, 4]) rfl | exact Ent.pull_drop (is := [1, 5]) rfl | exact Ent.pull_drop (is := [1, 6]) rfl | exact Ent.pull_drop (is := [2, 0]) rfl | exact Ent.pull_drop (is := [2, 1]) rfl | exact Ent.pull_drop (is := [2, 2]) rfl | exact Ent.pull_drop (is := [2, 3]) rfl | exact Ent.pull_drop (is := [2, 4]) rfl | exact Ent.pull_drop (is := [2, 5]) rfl | exact Ent.pull_drop (is := [2, 6]) rfl | exact Ent.pull_drop (is := [3, 0]) rfl | exact Ent.pull_drop (is := [3, 1]) rfl | exact Ent.pull_drop (is := [3, 2]) rfl | exact Ent.pull_drop (is := [3, 3]) rfl | exact Ent.pull_drop (is := [3, 4]) rfl | exact Ent.pull_drop (is := [3, 5]) rfl | exact Ent.pull_drop (is := [3, 6]) rfl | exact Ent.pull_drop (is := [4, 0]) rfl | exact Ent.pull_drop (is := [4, 1]) rfl | exact Ent.pull_drop (is := [4, 2]) rfl | exact Ent.pull_drop (is := [4, 3]) rfl | exact Ent.pull_drop (is := [4, 4]) rfl | exact Ent.pull_drop (is := [4, 5]) rfl | exact Ent.pull_drop (is := [4, 6]) rfl | exact Ent.pull_drop (is := [5, 0]) rfl | exact Ent.pull_drop (is := [5, 1]) rfl | exact Ent.pull_drop (is := [5, 2]) rfl | exact Ent.pull_drop (is := [5, 3]) rfl | exact Ent.pull_drop (is := [5, 4]) rfl | exact Ent.pull_drop (is := [5, 5]) rfl | exact Ent.pull_drop (is := [5, 6]) rfl | exact Ent.pull_drop (is := [6, 0]) rfl | exact Ent.pull_drop (is := [6, 1]) rfl | exact Ent.pull_drop (is := [6, 2]) rfl | exact Ent.pull_drop (is := [6, 3]) rfl | exact Ent.pull_drop (is := [6, 4]) rfl | exact Ent.pull_drop (is := [6, 5]) rfl | exact Ent.pull_drop (is := [6, 6]) rfl | exact Ent.pull_drop (is := [7, 0]) rfl | exact Ent.pull_drop (is := [7, 1]) rfl | exact Ent.pull_drop (is := [7, 2]) rfl | exact Ent.pull_drop (is := [7, 3]) rfl | exact Ent.pull_drop (is := [7, 4]) rfl | exact Ent.pull_drop (is := [7, 5]) rfl | exact Ent.pull_drop (is := [7, 6]) rfl) ?_
  refine RD.pp rfl rfl rfl rfl (p_fieldAddr rfl fa_85_1 rfl) ?_
  refine RD.qq rfl rfl rfl rfl (by first | exact (q_load rfl sc_48 rfl (i := 0) rfl rfl) | exact (q_load rfl sc_48 rfl (i := 1) rfl rfl) | exact (q_load rfl sc_48 rfl (i := 2) rfl rfl) | exact (q_load rfl sc_48 rfl (i := 3) rfl rfl) | exact (q_load rfl sc_48 rfl (i := 4) rfl rfl)) (by first | exact Ent.refl _ | exact Ent.pull_drop (is := [0, 0]) rfl | exact Ent.pull_drop (is := [0, 1]) rfl | exact Ent.pull_drop (is := [0, 2]) rfl | exact Ent.pull_drop (is := [0, 3]) rfl | exact Ent.pull_drop (is := [0, 4]) rfl | exact Ent.pull_drop (is := [0, 5]) rfl | exact Ent.pull_drop (is := [0, 6]) rfl | exact Ent.pull_drop (is := [1, 0]) rfl | exact Ent.pull_drop (is := [1, 1]) rfl | exact Ent.pull_drop (is := [1, 2]) rfl | exact Ent.pull_drop (is := [1, 3]) rfl | exact Ent.pull_drop (is := [1, 4]) rfl | exact Ent.pull_drop (is := [1, 5]) rfl | exact Ent.pull_drop (is := [1, 6]) rfl | exact Ent.pull_drop (is := [2, 0]) rfl | exact Ent.pull_drop (is := [2, 1]) rfl | exact Ent.pull_drop (is := [2, 2]) rfl | exact Ent.pull_drop (is := [2, 3]) rfl | exact Ent.pull_drop (is := [2, 4]) rfl | exact Ent.pull_drop (is := [2, 5]) rfl | exact Ent.pull_drop (is := [2, 6]) rfl | exact Ent.pull_drop (is := [3, 0]) rfl | exact Ent.pull_drop (is := [3, 1]) rfl | exact Ent.pull_drop (is := [3, 2]) rfl | exact Ent.pull_drop (is := [3, 3]) rfl | exact Ent.pull_drop (is := [3, 4]) rfl | exact Ent.pull_drop (is := [3, 5]) rfl | exact Ent.pull_drop (is := [3, 6]) rfl | exact Ent.pull_drop (is := [4, 0]) rfl | exact Ent.pull_drop (is := [4, 1]) rfl | exact Ent.pull_drop (is := [4, 2]) rfl | exact Ent.pull_drop (is := [4, 3]) rfl | exact Ent.pull_drop (is := [4, 4]) rfl | exact Ent.pull_drop (is := [4, 5]) rfl | exact Ent.pull_drop (is := [4, 6]) rfl | exact Ent.pull_drop (is := [5, 0]) rfl | exact Ent.pull_drop (is := [5, 1]) rfl | exact Ent.pull_drop (is := [5, 2]) rfl | exact Ent.pull_drop (is := [5, 3]) rfl | exact Ent.pull_drop (is := [5, 4]) rfl | exact Ent.pull_drop (is := [5, 5]) rfl | exact Ent.pull_drop (is := [5, 6]) rfl | exact Ent.pull_drop (is := [6, 0]) rfl | exact Ent.pull_drop (is := [6, 1]) rfl | exact Ent.pull_drop (is := [6, 2]) rfl | exact Ent.pull_drop (is := [6, 3]) rfl | exact Ent.pull_drop (is := [6, 4]) rfl | exact Ent.pull_drop (is := [6, 5]) rfl | exact Ent.pull_drop (is := [6, 6]) rfl | exact Ent.pull_drop (is := [7, 0]) rfl | exact Ent.pull_drop (is := [7, 1]) rfl | exact Ent.pull_drop (is := [7, 2]) rfl | exact Ent.pull_drop (is := [7, 3]) rfl | exact Ent.pull_drop (is := [7, 4]) rfl | exact Ent.pull_drop (is := [7, 5]) rfl | exact Ent.pull_drop (is := [7, 6]) rfl) ?_
  refine RD.pp rfl rfl rfl rfl (p_fieldAddr rfl fa_85_1 rfl) ?_
  refine RD.qq rfl rfl rfl rfl (by first | exact (q_load rfl sc_48 rfl (i := 0) rfl rfl) | exact (q_load rfl sc_48 rfl (i := 1) rfl rfl) | exact (q_load rfl sc_48 rfl (i := 2) rfl rfl) | exact (q_load rfl sc_48 rfl (i := 3) rfl rfl) | exact (q_load rfl sc_48 rfl (i := 4) rfl rfl)) (by first | exact Ent.refl _ | exact Ent.pull_drop (is := [0, 0]) rfl | exact Ent.pull_drop (is := [0, 1]) rfl | exact Ent.pull_drop (is := [0, 2]) rfl | exact Ent.pull_drop (is := [0, 3]) rfl | exact Ent.pull_drop (is := [0, 4]) rfl | exact Ent.pull_drop (is := [0, 5]) rfl | exact Ent.pull_drop (is := [0, 6]) rfl | exact Ent.pull_drop (is := [1, 0]) rfl | exact Ent.pull_drop (is := [1, 1]) rfl | exact Ent.pull_drop (is := [1, 2]) rfl | exact Ent.pull_drop (is := [1, 3]) rfl | exact Ent.pull_drop (is := [1, 4]) rfl | exact Ent.pull_drop (is := [1, 5]) rfl | exact Ent.pull_drop (is := [1, 6]) rfl | exact Ent.pull_drop (is := [2, 0]) rfl | exact Ent.pull_drop (is := [2, 1]) rfl | exact Ent.pull_drop (is := [2, 2]) rfl | exact Ent.pull_drop (is := [2, 3]) rfl | exact Ent.pull_drop (is := [2, 4]) rfl | exact Ent.pull_drop (is := [2, 5]) rfl | exact Ent.pull_drop (is := [2, 6]) rfl | exact Ent.pull_drop (is := [3, 0]) rfl | exact Ent.pull_drop (is := [3, 1]) rfl | exact Ent.pull_drop (is := [3, 2]) rfl | exact Ent.pull_drop (is := [3, 3]) rfl | exact Ent.pull_drop (is := [3, 4]) rfl | exact Ent.pull_drop (is := [3, 5]) rfl | exact Ent.pull_drop (is := [3, 6]) rfl | exact Ent.pull_drop (is := [4, 0]) rfl | exact Ent.pull_drop (is := [4, 1]) rfl | exact Ent.pull_drop (is := [4, 2]) rfl | exact Ent.pull_drop (is := [4, 3]) rfl | exact Ent.pull_drop (is := [4, 4]) rfl | exact Ent.pull_drop (is := [4, 5]) rfl | exact Ent.pull_drop (is := [4, 6]) rfl | exact Ent.pull_drop (is := [5, 0]) rfl | exact Ent.pull_drop (is := [5, 1]) rfl | exact Ent.pull_drop (is := [5, 2]) rfl | exact Ent.pull_drop (is := [5, 3]) rfl | exact Ent.pull_drop (is := [5, 4]) rfl | exact Ent.pull_drop (is := [5, 5]) rfl | exact Ent.pull_drop (is := [5, 6]) rfl | exact Ent.pull_drop (is := [6, 0]) rfl | exact Ent.pull_drop (is := [6, 1]) rfl | exact Ent.pull_drop (is := [6, 2]) rfl | exact Ent.pull_drop (is := [6, 3]) rfl | exact Ent.pull_drop (is := [6, 4]) rfl | exact Ent.pull_drop (is := [6, 5]) rfl | exact Ent.pull_drop (is := [6, 6]) rfl | exact Ent.pull_drop (is := [7, 0]) rfl | exact Ent.pull_drop (is := [7, 1]) rfl | exact Ent.pull_drop (is := [7, 2]) rfl | exact Ent.pull_drop (is := [7, 3]) rfl | exact Ent.pull_drop (is := [7, 4]) rfl | exact Ent.pull_drop (is := [7, 5]) rfl | exact Ent.pull_drop (is := [7, 6]) rfl) ?_
  refine RD.pp rfl rfl rfl rfl (p_fieldAddr rfl fa_85_0 rfl) ?_
  refine RD.qq rfl rfl rfl rfl (by first | exact (q_load rfl sc_3 rfl (i := 0) rfl rfl) | exact (q_load rfl sc_3 rfl (i := 1) rfl rfl) | exact (q_load rfl sc_3 rfl (i := 2) rfl rfl) | exact (q_load rfl sc_3 rfl (i := 3) rfl rfl) | exact (q_load rfl sc_3 rfl (i := 4) rfl rfl)) (by first | exact Ent.refl _ | exact Ent.pull_drop (is := [0, 0]) rfl | exact Ent.pull_drop (is := [0, 1]) rfl | exact Ent.pull_drop (is := [0, 2]) rfl | exact Ent.pull_drop (is := [0, 3]) rfl | exact Ent.pull_drop (is := [0, 4]) rfl | exact Ent.pull_drop (is := [0, 5]) rfl | exact Ent.pull_drop (is := [0, 6]) rfl | exact Ent.pull_drop (is := [1, 0]) rfl | exact Ent.pull_drop (is := [1, 1]) rfl | exact Ent.pull_drop (is := [1, 2]) rfl | exact Ent.pull_drop (is := [1, 3]) rfl | exact Ent.pull_drop (is := [1, 4]) rfl | exact Ent.pull_drop (is := [1, 5]) rfl | exact Ent.pull_drop (is := [1, 6]) rfl | exact Ent.pull_drop (is := [2, 0]) rfl | exact Ent.pull_drop (is := [2, 1]) rfl | exact Ent.pull_drop (is := [2, 2]) rfl | exact Ent.pull_drop (is := [2, 3]) rfl | exact Ent.pull_drop (is := [2, 4]) rfl | exact Ent.pull_drop (is := [2, 5]) rfl | exact Ent.pull_drop (is := [2, 6]) rfl | exact Ent.pull_drop (is := [3, 0]) rfl | exact Ent.pull_drop (is := [3, 1]) rfl | exact Ent.pull_drop (is := [3, 2]) rfl | exact Ent.pull_drop (is := [3, 3]) rfl | exact Ent.pull_drop (is := [3, 4]) rfl | exact Ent.pull_drop (is := [3, 5]) rfl | exact Ent.pull_drop (is := [3, 6]) rfl | exact Ent.pull_drop (is := [4, 0]) rfl | exact Ent.pull_drop (is := [4, 1]) rfl | exact Ent.pull_drop (is := [4, 2]) rfl | exact Ent.pull_drop (is := [4, 3]) rfl | exact Ent.pull_drop (is := [4, 4]) rfl | exact Ent.pull_drop (is := [4, 5]) rfl | exact Ent.pull_drop (is := [4, 6]) rfl | exact Ent.pull_drop (is := [5, 0]) rfl | exact Ent.pull_drop (is := [5, 1]) rfl | exact Ent.pull_drop (is := [5, 2]) rfl | exact Ent.pull_drop (is := [5, 3]) rfl | exact Ent.pull_drop (is := [5, 4]) rfl | exact Ent.pull_drop (is := [5, 5]) rfl | exact Ent.pull_drop (is := [5, 6]) rfl | exact Ent.pull_drop (is := [6, 0]) rfl | exact Ent.pull_drop (is := [6, 1]) rfl | exact Ent.pull_drop (is := [6, 2]) rfl | exact Ent.pull_drop (is := [6, 3]) rfl | exact Ent.pull_drop (is := [6, 4]) rfl | exact Ent.pull_drop (is := [6, 5]) rfl | exact Ent.pull_drop (is := [6, 6]) rfl | exact Ent.pull_drop (is := [7, 0]) rfl | exact Ent.pull_drop (is := [7, 1]) rfl | exact Ent.pull_drop (is := [7, 2]) rfl | exact Ent.pull_drop (is := [7, 3]) rfl | exact Ent.pull_drop (is := [7, 4]) rfl | exact Ent.pull_drop (is := [7, 5]) rfl | exact Ent.pull_drop (is := [7, 6]) rfl) ?_
  refine RD.pp rfl rfl rfl rfl (p_fieldAddr rfl fa_85_0 rfl) ?_
  refine RD.qq rfl rfl rfl rfl (by first | exact (q_load rfl sc_3 rfl (i := 0) rfl rfl) | exact (q_load rfl sc_3 rfl (i := 1) rfl rfl) | exact (q_load rfl sc_3 rfl (i := 2) rfl rfl) | exact (q_load rfl sc_3 rfl (i := 3) rfl rfl) | exact (q_load rfl sc_3 rfl (i := 4) rfl rfl)) (by first | exact Ent.refl _ | exact Ent.pull_drop (is := [0, 0]) rfl | exact Ent.pull_drop (is := [0, 1]) rfl | exact Ent.pull_drop (is := [0, 2]) rfl | exact Ent.pull_drop (is := [0, 3]) rfl | exact Ent.pull_drop (is := [0, 4]) rfl | exact Ent.pull_drop (is := [0, 5]) rfl | exact Ent.pull_drop (is := [0, 6]) rfl | exact Ent.pull_drop (is := [1, 0]) rfl | exact Ent.pull_drop (is := [1, 1]) rfl | exact Ent.pull_drop (is := [1, 2]) rfl | exact Ent.pull_drop (is := [1, 3]) rfl | exact Ent.pull_drop (is := [1, 4]) rfl | exact Ent.pull_drop (is := [1, 5]) rfl | exact Ent.pull_drop (is := [1, 6]) rfl | exact Ent.pull_drop (is := [2, 0]) rfl | exact Ent.pull_drop (is := [2, 1]) rfl | exact Ent.pull_drop (is := [2, 2]) rfl | exact Ent.pull_drop (is := [2, 3]) rfl | exact Ent.pull_drop (is := [2, 4]) rfl | exact Ent.pull_drop (is := [2, 5]) rfl | exact Ent.pull_drop (is := [2, 6]) rfl | exact Ent.pull_drop (is := [3, 0]) rfl | exact Ent.pull_drop (is := [3, 1]) rfl | exact Ent.pull_drop (is := [3, 2]) rfl | exact Ent.pull_drop (is := [3, 3]) rfl | exact Ent.pull_drop (is := [3, 4]) rfl | exact Ent.pull_drop (is := [3, 5]) rfl | exact Ent.pull_drop (is := [3, 6]) rfl | exact Ent.pull_drop (is := [4, 0]) rfl | exact Ent.pull_drop (is := [4, 1]) rfl | exact Ent.pull_drop (is := [4, 2]) rfl | exact Ent.pull_drop (is := [4, 3]) rfl | exact Ent.pull_drop (is := [4, 4]) rfl | exact Ent.pull_drop (is := [4, 5]) rfl | exact Ent.pull_drop (is := [4, 6]) rfl | exact Ent.pull_drop (is := [5, 0]) rfl | exact Ent.pull_drop (is := [5, 1]) rfl | exact Ent.pull_drop (is := [5, 2]) rfl | exact Ent.pull_drop (is := [5, 3]) rfl | exact Ent.pull_drop (is := [5, 4]) rfl | exact Ent.pull_drop (is := [5, 5]) rfl | exact Ent.pull_drop (is := [5, 6]) rfl | exact Ent.pull_drop (is := [6, 0]) rfl | exact Ent.pull_drop (is := [6, 1]) rfl | exact Ent.pull_drop (is := [6, 2]) rfl | exact Ent.pull_drop (is := [6, 3]) rfl | exact Ent.pull_drop (is := [6, 4]) rfl | exact Ent.pull_drop (is := [6, 5]) rfl | exact Ent.pull_drop (is := [6, 6]) rfl | exact Ent.pull_drop (is := [7, 0]) rfl | exact Ent.pull_drop (is := [7, 1]) rfl | exact Ent.pull_drop (is := [7, 2]) rfl | exact Ent.pull_drop (is := [7, 3]) rfl | exact Ent.pull_drop (is := [7, 4]) rfl | exact Ent.pull_drop (is := [7, 5]) rfl | exact Ent.pull_drop (is := [7, 6]) rfl) ?_
  refine RD.pp rfl rfl rfl rfl (p_fieldAddr rfl fa_85_2 rfl) ?_
  refine RD.qq rfl rfl rfl rfl (by first | exact (q_load rfl sc_48 rfl (i := 0) rfl rfl) | exact (q_load rfl sc_48 rfl (i := 1) rfl rfl) | exact (q_load rfl sc_48 rfl (i := 2) rfl rfl) | exact (q_load rfl sc_48 rfl (i := 3) rfl rfl) | exact (q_load rfl sc_48 rfl (i := 4) rfl rfl)) (by first | exact Ent.refl _ | exact Ent.pull_drop (is := [0, 0]) rfl | exact Ent.pull_drop (is := [0, 1]) rfl | exact Ent.pull_drop (is := [0, 2]) rfl | exact Ent.pull_drop (is := [0, 3]) rfl | exact Ent.pull_drop (is := [0, 4]) rfl | exact Ent.pull_drop (is := [0, 5]) rfl | exact Ent.pull_drop (is := [0, 6]) rfl | exact Ent.pull_drop (is := [1, 0]) rfl | exact Ent.pull_drop (is := [1, 1]) rfl | exact Ent.pull_drop (is := [1, 2]) rfl | exact Ent.pull_drop (is := [1, 3]) rfl | exact Ent.pull_drop (is := [1, 4]) rfl | exact Ent.pull_drop (is := [1, 5]) rfl | exact Ent.pull_drop (is := [1, 6]) rfl | exact Ent.pull_drop (is := [2, 0]) rfl | exact Ent.pull_drop (is := [2, 1]) rfl | exact Ent.pull_drop (is := [2, 2]) rfl | exact Ent.pull_drop (is := [2, 3]) rfl | exact Ent.pull_drop (is := [2, 4]) rfl | exact Ent.pull_drop (is := [2, 5]) rfl | exact Ent.pull_drop (is := [2, 6]) rfl | exact Ent.pull_drop (is := [3, 0]) rfl | exact Ent.pull_drop (is := [3, 1]) rfl | exact Ent.pull_drop (is := [3, 2]) rfl | exact Ent.pull_drop (is := [3, 3]) rfl | exact Ent.pull_drop (is := [3, 4]) rfl | exact Ent.pull_drop (is := [3, 5]) rfl | exact Ent.pull_drop (is := [3, 6]) rfl | exact Ent.pull_drop (is := [4, 0]) rfl | exact Ent.pull_drop (is := [4, 1]) rfl | exact Ent.pull_drop (is := [4, 2]) rfl | exact Ent.pull_drop (is := [4, 3]) rfl | exact Ent.pull_drop (is := [4, 4]) rfl | exact Ent.pull_drop (is := [4, 5]) rfl | exact Ent.pull_drop (is := [4, 6]) rfl | exact Ent.pull_drop (is := [5, 0]) rfl | exact Ent.pull_drop (is := [5, 1]) rfl | exact Ent.pull_drop (is := [5, 2]) rfl | exact Ent.pull_drop (is := [5, 3]) rfl | exact Ent.pull_drop (is := [5, 4]) rfl | exact Ent.pull_drop (is := [5, 5]) rfl | exact Ent.pull_drop (is := [5, 6]) rfl | exact Ent.pull_drop (is := [6, 0]) rfl | exact Ent.pull_drop (is := [6, 1]) rfl | exact Ent.pull_drop (is := [6, 2]) rfl | exact Ent.pull_drop (is := [6, 3]) rfl | exact Ent.pull_drop (is := [6, 4]) rfl | exact Ent.pull_drop (is := [6, 5]) rfl | exact Ent.pull_drop (is := [6, 6]) rfl | exact Ent.pull_drop (is := [7, 0]) rfl | exact Ent.pull_drop (is := [7, 1]) rfl | exact Ent.pull_drop (is := [7, 2]) rfl | exact Ent.pull_drop (is := [7, 3]) rfl | exact Ent.pull_drop (is := [7, 4]) rfl | exact Ent.pull_drop (is := [7, 5]) rfl | exact Ent.pull_drop (is := [7, 6]) rfl) ?_
  refine RD.pp rfl rfl rfl rfl (p_fieldAddr rfl fa_85_2 rfl) ?_
  refine RD.qq rfl rfl rfl rfl (by first | exact (q_load rfl sc_48 rfl (i := 0) rfl rfl) | exact (q_load rfl sc_48 rfl (i := 1) rfl rfl) | exact (q_load rfl sc_48 rfl (i := 2) rfl rfl) | exact (q_load rfl sc_48 rfl (i := 3) rfl rfl) | exact (q_load rfl sc_48 rfl (i := 4) rfl rfl)) (by first | exact Ent.refl _ | exact Ent.pull_drop (is := [0, 0]) rfl | exact Ent.pull_drop (is := [0, 1]) rfl | exact Ent.pull_drop (is := [0, 2]) rfl | exact Ent.pull_drop (is := [0, 3]) rfl | exact Ent.pull_drop (is := [0, 4]) rfl | exact Ent.pull_drop (is := [0, 5]) rfl | exact Ent.pull_drop (is := [0, 6]) rfl | exact Ent.pull_drop (is := [1, 0]) rfl | exact Ent.pull_drop (is := [1, 1]) rfl | exact Ent.pull_drop (is := [1, 2]) rfl | exact Ent.pull_drop (is := [1, 3]) rfl | exact Ent.pull_drop (is := [1, 4]) rfl | exact Ent.pull_drop (is := [1, 5]) rfl | exact Ent.pull_drop (is := [1, 6]) rfl | exact Ent.pull_drop (is := [2, 0]) rfl | exact Ent.pull_drop (is := [2, 1]) rfl | exact Ent.pull_drop (is := [2, 2]) rfl | exact Ent.pull_drop (is := [2, 3]) rfl | exact Ent.pull_drop (is := [2, 4]) rfl | exact Ent.pull_drop (is := [2, 5]) rfl | exact Ent.pull_drop (is := [2, 6]) rfl | exact Ent.pull_drop (is := [3, 0]) rfl | exact Ent.pull_drop (is := [3, 1]) rfl | exact Ent.pull_drop (is := [3, 2]) rfl | exact Ent.pull_drop (is := [3, 3]) rfl | exact Ent.pull_drop (is := [3, 4]) rfl | exact Ent.pull_drop (is := [3, 5]) rfl | exact Ent.pull_drop (is := [3, 6]) rfl | exact Ent.pull_drop (is := [4, 0]) rfl | exact Ent.pull_drop (is := [4, 1]) rfl | exact Ent.pull_drop (is := [4, 2]) rfl | exact Ent.pull_drop (is := [4, 3]) rfl | exact Ent.pull_drop (is := [4, 4]) rfl | exact Ent.pull_drop (is := [4, 5]) rfl | exact Ent.pull_drop (is := [4, 6]) rfl | exact Ent.pull_drop (is := [5, 0]) rfl | exact Ent.pull_drop (is := [5, 1]) rfl | exact Ent.pull_drop (is := [5, 2]) rfl | exact Ent.pull_drop (is := [5, 3]) rfl | exact Ent.pull_drop (is := [5, 4]) rfl | exact Ent.pull_drop (is := [5, 5]) rfl | exact Ent.pull_drop (is := [5, 6]) rfl | exact Ent.pull_drop (is := [6, 0]) rfl | exact Ent.pull_drop (is := [6, 1]) rfl | exact Ent.pull_drop (is := [6, 2]) rfl | exact Ent.pull_drop (is := [6, 3]) rfl | exact Ent.pull_drop (is := [6, 4]) rfl | exact Ent.pull_drop (is := [6, 5]) rfl | exact Ent.pull_drop (is := [6, 6]) rfl | exact Ent.pull_drop (is := [7, 0]) rfl | exact Ent.pull_drop (is := [7, 1]) rfl | exact Ent.pull_drop (is := [7, 2]) rfl | exact Ent.pull_drop (is := [7, 3]) rfl | exact Ent.pull_drop (is := [7, 4]) rfl | exact Ent.pull_drop (is := [7, 5]) rfl | exact Ent.pull_drop (is := [7, 6]) rfl) ?_
  refine RD.C [] rfl rfl rfl rfl (c_call rfl rfl) (CmpU_spec x.epoch y.epoch) rfl (by rintro _ _ ⟨rfl, rfl⟩; exact .inl (by first | exact Ent.refl _ | exact Ent.pull_drop (is := [0, 0]) rfl | exact Ent.pull_drop (is := [0, 1]) rfl | exact Ent.pull_drop (is := [0, 2]) rfl | exact Ent.pull_drop (is := [0, 3]) rfl | exact Ent.pull_drop (is := [0, 4]) rfl | exact Ent.pull_drop (is := [0, 5]) rfl | exact Ent.pull_drop (is := [0, 6]) rfl | exact Ent.pull_drop (is := [1, 0]) rfl | exact Ent.pull_drop (is := [1, 1]) rfl | exact Ent.pull_drop (is := [1, 2]) rfl | exact Ent.pull_drop (is := [1, 3]) rfl | exact Ent.pull_drop (is := [1, 4]) rfl | exact Ent.pull_drop (is := [1, 5]) rfl | exact Ent.pull_drop (is := [1, 6]) rfl | exact Ent.pull_drop (is := [2, 0]) rfl | exact Ent.pull_drop (is := [2, 1]) rfl | exact Ent.pull_drop (is := [2, 2]) rfl | exact Ent.pull_drop (is := [2, 3]) rfl | exact Ent.pull_drop (is := [2, 4]) rfl | exact Ent.pull_drop (is := [2, 5]) rfl | exact Ent.pull_drop (is := [2, 6]) rfl | exact Ent.pull_drop (is := [3, 0]) rfl | exact Ent.pull_drop (is := [3, 1]) rfl | exact Ent.pull_drop (is := [3, 2]) rfl | exact Ent.pull_drop (is := [3, 3]) rfl | exact Ent.pull_drop (is := [3, 4]) rfl | exact Ent.pull_drop (is := [3, 5]) rfl | exact Ent.pull_drop (is := [3, 6]) rfl | exact Ent.pull_drop (is := [4, 0]) rfl | exact Ent.pull_drop (is := [4, 1]) rfl | exact Ent.pull_drop (is := [4, 2]) rfl | exact Ent.pull_drop (is := [4, 3]) rfl | exact Ent.pull_drop (is := [4, 4]) rfl | exact Ent.pull_drop (is := [4, 5]) rfl | exact Ent.pull_drop (is := [4, 6]) rfl | exact Ent.pull_drop (is := [5, 0]) rfl | exact Ent.pull_drop (is := [5, 1]) rfl | exact Ent.pull_drop (is := [5, 2]) rfl | exact Ent.pull_drop (is := [5, 3]) rfl | exact Ent.pull_drop (is := [5, 4]) rfl | exact Ent.pull_drop (is := [5, 5]) rfl | exact Ent.pull_drop (is := [5, 6]) rfl | exact Ent.pull_drop (is := [6, 0]) rfl | exact Ent.pull_drop (is := [6, 1]) rfl | exact Ent.pull_drop (is := [6, 2]) rfl | exact Ent.pull_drop (is := [6, 3]) rfl | exact Ent.pull_drop (is := [6, 4]) rfl | exact Ent.pull_drop (is := [6, 5]) rfl | exact Ent.pull_drop (is := [6, 6]) rfl | exact Ent.pull_drop (is := [7, 0]) rfl | exact Ent.pull_drop (is := [7, 1]) rfl | exact Ent.pull_drop (is := [7, 2]) rfl | exact Ent.pull_drop (is := [7, 3]) rfl | exact Ent.pull_drop (is := [7, 4]) rfl | exact Ent.pull_drop (is := [7, 5]) rfl | exact Ent.pull_drop (is := [7, 6]) rfl)) ?_
  rintro _ _ ⟨rfl, rfl⟩
  refine RD.C [] rfl rfl rfl rfl (c_call rfl rfl) (CmpI_spec x.kind y.kind) rfl (by rintro _ _ ⟨rfl, rfl⟩; exact .inl (by first | exact Ent.refl _ | exact Ent.pull_drop (is := [0, 0]) rfl | exact Ent.pull_drop (is := [0, 1]) rfl | exact Ent.pull_drop (is := [0, 2]) rfl | exact Ent.pull_drop (is := [0, 3]) rfl | exact Ent.pull_drop (is := [0, 4]) rfl | exact Ent.pull_drop (is := [0, 5]) rfl | exact Ent.pull_drop (is := [0, 6]) rfl | exact Ent.pull_drop (is := [1, 0]) rfl | exact Ent.pull_drop (is := [1, 1]) rfl | exact Ent.pull_drop (is := [1, 2]) rfl | exact Ent.pull_drop (is := [1, 3]) rfl | exact Ent.pull_drop (is := [1, 4]) rfl | exact Ent.pull_drop (is := [1, 5]) rfl | exact Ent.pull_drop (is := [1, 6]) rfl | exact Ent.pull_drop (is := [2, 0]) rfl | exact Ent.pull_drop (is := [2, 1]) rfl | exact Ent.pull_drop (is := [2, 2]) rfl | exact Ent.pull_drop (is := [2, 3]) rfl | exact Ent.pull_drop (is := [2, 4]) rfl | exact Ent.pull_drop (is := [2, 5]) rfl | exact Ent.pull_drop (is := [2, 6]) rfl | exact Ent.pull_drop (is := [3, 0]) rfl | exact Ent.pull_drop (is := [3, 1]) rfl | exact Ent.pull_drop (is := [3, 2]) rfl | exact Ent.pull_drop (is := [3, 3]) rfl | exact Ent.pull_drop (is := [3, 4]) rfl | exact Ent.pull_drop (is := [3, 5]) rfl | exact Ent.pull_drop (is := [3, 6]) rfl | exact Ent.pull_drop (is := [4, 0]) rfl | exact Ent.pull_drop (is := [4, 1]) rfl | exact Ent.pull_drop (is := [4, 2]) rfl | exact Ent.pull_drop (is := [4, 3]) rfl | exact Ent.pull_drop (is := [4, 4]) rfl | exact Ent.pull_drop (is := [4, 5]) rfl | exact Ent.pull_drop (is := [4, 6]) rfl | exact Ent.pull_drop (is := [5, 0]) rfl | exact Ent.pull_drop (is := [5, 1]) rfl | exact Ent.pull_drop (is := [5, 2]) rfl | exact Ent.pull_drop (is := [5, 3]) rfl | exact Ent.pull_drop (is := [5, 4]) rfl | exact Ent.pull_drop (is := [5, 5]) rfl | exact Ent.pull_drop (is := [5, 6]) rfl | exact Ent.pull_drop (is := [6, 0]) rfl | exact Ent.pull_drop (is := [6, 1]) rfl | exact Ent.pull_drop (is := [6, 2]) rfl | exact Ent.pull_drop (is := [6, 3]) rfl | exact Ent.pull_drop (is := [6, 4]) rfl | exact Ent.pull_drop (is := [6, 5]) rfl | exact Ent.pull_drop (is := [6, 6]) rfl | exact Ent.pull_drop (is := [7, 0]) rfl | exact Ent.pull_drop (is := [7, 1]) rfl | exact Ent.pull_drop (is := [7, 2]) rfl | exact Ent.pull_drop (is := [7, 3]) rfl | exact Ent.pull_drop (is := [7, 4]) rfl | exact Ent.pull_drop (is := [7, 5]) rfl | exact Ent.pull_drop (is := [7, 6]) rfl)) ?_
  rintro _ _ ⟨rfl, rfl⟩
  refine RD.C [] rfl rfl rfl rfl (c_call rfl rfl) (CmpU_spec x.group y.group) rfl (by rintro _ _ ⟨rfl, rfl⟩; exact .inl (by first | exact Ent.refl _ | exact Ent.pull_drop (is := [0, 0]) rfl | exact Ent.pull_drop (is := [0, 1]) rfl | exact Ent.pull_drop (is := [0, 2]) rfl | exact Ent.pull_drop (is := [0, 3]) rfl | exact Ent.pull_drop (is := [0, 4]) rfl | exact Ent.pull_drop (is := [0, 5]) rfl | exact Ent.pull_drop (is := [0, 6]) rfl | exact Ent.pull_drop (is := [1, 0]) rfl | exact Ent.pull_drop (is := [1, 1]) rfl | exact Ent.pull_drop (is := [1, 2]) rfl | exact Ent.pull_drop (is := [1, 3]) rfl | exact Ent.pull_drop (is := [1, 4]) rfl | exact Ent.pull_drop (is := [1, 5]) rfl | exact Ent.pull_drop (is := [1, 6]) rfl | exact Ent.pull_drop (is := [2, 0]) rfl | exact Ent.pull_drop (is := [2, 1]) rfl | exact Ent.pull_drop (is := [2, 2]) rfl | exact Ent.pull_drop (is := [2, 3]) rfl | exact Ent.pull_drop (is := [2, 4]) rfl | exact Ent.pull_drop (is := [2, 5]) rfl | exact Ent.pull_drop (is := [2, 6]) rfl | exact Ent.pull_drop (is := [3, 0]) rfl | exact Ent.pull_drop (is := [3, 1]) rfl | exact Ent.pull_drop (is := [3, 2]) rfl | exact Ent.pull_drop (is := [3, 3]) rfl | exact Ent.pull_drop (is := [3, 4]) rfl | exact Ent.pull_drop (is := [3, 5]) rfl | exact Ent.pull_drop (is := [3, 6]) rfl | exact Ent.pull_drop (is := [4, 0]) rfl | exact Ent.pull_drop (is := [4, 1]) rfl | exact Ent.pull_drop (is := [4, 2]) rfl | exact Ent.pull_drop (is := [4, 3]) rfl | exact Ent.pull_drop (is := [4, 4]) rfl | exact Ent.pull_drop (is := [4, 5]) rfl | exact Ent.pull_drop (is := [4, 6]) rfl | exact Ent.pull_drop (is := [5, 0]) rfl | exact Ent.pull_drop (is := [5, 1]) rfl | exact Ent.pull_drop (is := [5, 2]) rfl | exact Ent.pull_drop (is := [5, 3]) rfl | exact Ent.pull_drop (is := [5, 4]) rfl | exact Ent.pull_drop (is := [5, 5]) rfl | exact Ent.pull_drop (is := [5, 6]) rfl | exact Ent.pull_drop (is := [6, 0]) rfl | exact Ent.pull_drop (is := [6, 1]) rfl | exact Ent.pull_drop (is := [6, 2]) rfl | exact Ent.pull_drop (is := [6, 3]) rfl | exact Ent.pull_drop (is := [6, 4]) rfl | exact Ent.pull_drop (is := [6, 5]) rfl | exact Ent.pull_drop (is := [6, 6]) rfl | exact Ent.pull_drop (is := [7, 0]) rfl | exact Ent.pull_drop (is := [7, 1]) rfl | exact Ent.pull_drop (is := [7, 2]) rfl | exact Ent.pull_drop (is := [7, 3]) rfl | exact Ent.pull_drop (is := [7, 4]) rfl | exact Ent.pull_drop (is := [7, 5]) rfl | exact Ent.pull_drop (is := [7, 6]) rfl)) ?_
  rintro _ _ ⟨rfl, rfl⟩
  refine RD.E rfl rfl rfl rfl (e_buildSlice rfl Try.underlying40 ti_3 rfl (by decide) rfl (by simp)) (by rintro _ _ ⟨_, rfl, rfl⟩; exact .inl (by first | exact Ent.refl _ | exact Ent.pull_drop (is := [0, 0]) rfl | exact Ent.pull_drop (is := [0, 1]) rfl | exact Ent.pull_drop (is := [0, 2]) rfl | exact Ent.pull_drop (is := [0, 3]) rfl | exact Ent.pull_drop (is := [0, 4]) rfl | exact Ent.pull_drop (is := [0, 5]) rfl | exact Ent.pull_drop (is := [0, 6]) rfl | exact Ent.pull_drop (is := [1, 0]) rfl | exact Ent.pull_drop (is := [1, 1]) rfl | exact Ent.pull_drop (is := [1, 2]) rfl | exact Ent.pull_drop (is := [1, 3]) rfl | exact Ent.pull_drop (is := [1, 4]) rfl | exact Ent.pull_drop (is := [1, 5]) rfl | exact Ent.pull_drop (is := [1, 6]) rfl | exact Ent.pull_drop (is := [2, 0]) rfl | exact Ent.pull_drop (is := [2, 1]) rfl | exact Ent.pull_drop (is := [2, 2]) rfl | exact Ent.pull_drop (is := [2, 3]) rfl | exact Ent.pull_drop (is := [2, 4]) rfl | exact Ent.pull_drop (is := [2, 5]) rfl | exact Ent.pull_drop (is := [2, 6]) rfl | exact Ent.pull_drop (is := [3, 0]) rfl | exact Ent.pull_drop (is := [3, 1]) rfl | exact Ent.pull_drop (is := [3, 2]) rfl | exact Ent.pull_drop (is := [3, 3]) rfl | exact Ent.pull_drop (is := [3, 4]) rfl | exact Ent.pull_drop (is := [3, 5]) rfl | exact Ent.pull_drop (is := [3, 6]) rfl | exact Ent.pull_drop (is := [4, 0]) rfl | exact Ent.pull_drop (is := [4, 1]) rfl | exact Ent.pull_drop (is := [4, 2]) rfl | exact Ent.pull_drop (is := [4, 3]) rfl | exact Ent.pull_drop (is := [4, 4]) rfl | exact Ent.pull_drop (is := [4, 5]) rfl | exact Ent.pull_drop (is := [4, 6]) rfl | exact Ent.pull_drop (is := [5, 0]) rfl | exact Ent.pull_drop (is := [5, 1]) rfl | exact Ent.pull_drop (is := [5, 2]) rfl | exact Ent.pull_drop (is := [5, 3]) rfl | exact Ent.pull_drop (is := [5, 4]) rfl | exact Ent.pull_drop (is := [5, 5]) rfl | exact Ent.pull_drop (is := [5, 6]) rfl | exact Ent.pull_drop (is := [6, 0]) rfl | exact Ent.pull_drop (is := [6, 1]) rfl | exact Ent.pull_drop (is := [6, 2]) rfl | exact Ent.pull_drop (is := [6, 3]) rfl | exact Ent.pull_drop (is := [6, 4]) rfl | exact Ent.pull_drop (is := [6, 5]) rfl | exact Ent.pull_drop (is := [6, 6]) rfl | exact Ent.pull_drop (is := [7, 0]) rfl | exact Ent.pull_drop (is := [7, 1]) rfl | exact Ent.pull_drop (is := [7, 2]) rfl | exact Ent.pull_drop (is := [7, 3]) rfl | exact Ent.pull_drop (is := [7, 4]) rfl | exact Ent.pull_drop (is := [7, 5]) rfl | exact Ent.pull_drop (is := [7, 6]) rfl)) ?_
  rintro _ _ ⟨b20, rfl, rfl⟩
  refine RD.C [0] rfl rfl rfl rfl (c_call rfl rfl) (Or_spec b20 3 [cmpI x.epoch y.epoch, cmpI x.kind y.kind, cmpI x.group y.group] (by simp)) rfl (by rintro _ _ ⟨rfl, rfl⟩; exact .inl (by first | exact Ent.refl _ | exact Ent.pull_drop (is := [0, 0]) rfl | exact Ent.pull_drop (is := [0, 1]) rfl | exact Ent.pull_drop (is := [0, 2]) rfl | exact Ent.pull_drop (is := [0, 3]) rfl | exact Ent.pull_drop (is := [0, 4]) rfl | exact Ent.pull_drop (is := [0, 5]) rfl | exact Ent.pull_drop (is := [0, 6]) rfl | exact Ent.pull_drop (is := [1, 0]) rfl | exact Ent.pull_drop (is := [1, 1]) rfl | exact Ent.pull_drop (is := [1, 2]) rfl | exact Ent.pull_drop (is := [1, 3]) rfl | exact Ent.pull_drop (is := [1, 4]) rfl | exact Ent.pull_drop (is := [1, 5]) rfl | exact Ent.pull_drop (is := [1, 6]) rfl | exact Ent.pull_drop (is := [2, 0]) rfl | exact Ent.pull_drop (is := [2, 1]) rfl | exact Ent.pull_drop (is := [2, 2]) rfl | exact Ent.pull_drop (is := [2, 3]) rfl | exact Ent.pull_drop (is := [2, 4]) rfl | exact Ent.pull_drop (is := [2, 5]) rfl | exact Ent.pull_drop (is := [2, 6]) rfl | exact Ent.pull_drop (is := [3, 0]) rfl | exact Ent.pull_drop (is := [3, 1]) rfl | exact Ent.pull_drop (is := [3, 2]) rfl | exact Ent.pull_drop (is := [3, 3]) rfl | exact Ent.pull_drop (is := [3, 4]) rfl | exact Ent.pull_drop (is := [3, 5]) rfl | exact Ent.pull_drop (is := [3, 6]) rfl | exact Ent.pull_drop (is := [4, 0]) rfl | exact Ent.pull_drop (is := [4, 1]) rfl | exact Ent.pull_drop (is := [4, 2]) rfl | exact Ent.pull_drop (is := [4, 3]) rfl | exact Ent.pull_drop (is := [4, 4]) rfl | exact Ent.pull_drop (is := [4, 5]) rfl | exact Ent.pull_drop (is := [4, 6]) rfl | exact Ent.pull_drop (is := [5, 0]) rfl | exact Ent.pull_drop (is := [5, 1]) rfl | exact Ent.pull_drop (is := [5, 2]) rfl | exact Ent.pull_drop (is := [5, 3]) rfl | exact Ent.pull_drop (is := [5, 4]) rfl | exact Ent.pull_drop (is := [5, 5]) rfl | exact Ent.pull_drop (is := [5, 6]) rfl | exact Ent.pull_drop (is := [6, 0]) rfl | exact Ent.pull_drop (is := [6, 1]) rfl | exact Ent.pull_drop (is := [6, 2]) rfl | exact Ent.pull_drop (is := [6, 3]) rfl | exact Ent.pull_drop (is := [6, 4]) rfl | exact Ent.pull_drop (is := [6, 5]) rfl | exact Ent.pull_drop (is := [6, 6]) rfl | exact Ent.pull_drop (is := [7, 0]) rfl | exact Ent.pull_drop (is := [7, 1]) rfl | exact Ent.pull_drop (is := [7, 2]) rfl | exact Ent.pull_drop (is := [7, 3]) rfl | exact Ent.pull_drop (is := [7, 4]) rfl | exact Ent.pull_drop (is := [7, 5]) rfl | exact Ent.pull_drop (is := [7, 6]) rfl)) ?_
  rintro _ _ ⟨rfl, rfl⟩
  refine RD.pp rfl rfl rfl rfl (p_assign rfl (by conv => lhs; whnf)) ?_
  refine RD.nil ?_
  refine hK2 _ _ ?_
  refine T.ret ?_
  refine bodyQ_ret [] (RetRun.tmp RetRun.nil) ⟨rfl, rfl⟩ (Ent.pull_drop (is := [3]) rfl)

theorem SClone_spec (b off n c : Nat) (cs : List Value) (l : List UInt8) (hl : off + n ≤ cs.length) (hy : (cs.drop off).take n = l.map u8V) (hn : n ≤ 65536) : Ctr Try.prog 52 [slc b off n c] [row b 5 cs] (fun v Ps => v.oneCell' = true ∧ Ps = [vec 5 1 v n (l.map u8V), row b 5 cs]) := by
  refine Ctr.of_body Try.func52 rfl (by kernel_rfl) Try.ntmps52 rfl rfl (fun Fr => ?_)
  refine T.seq fun K1 hK1 => ?_
  refine T.region (l := [0]) rfl ?_
  refine RN.qq rfl rfl rfl rfl (PRun.q (p_assign rfl (by conv => lhs; whnf))) ?_
  refine RN.nil ?_
  refine hK1 _ _ ?_
  refine T.seq fun K2 hK2 => ?_
  refine T.seq fun K3 hK3 => ?_
  refine T.region (l := [0, 1]) rfl ?_
  refine RN.qq rfl rfl rfl rfl (PRun.q (p_move rfl (by conv => lhs; whnf))) ?_
  refine RN.qq rfl rfl rfl rfl (PRun.q (p_sleql_nil rfl rfl rfl Try.underlying49)) ?_
  refine RN.nil ?_
  refine hK3 _ _ ?_
  first | refine T.cond_dec rfl (fun h4 => ?_) (fun h4 => ?_) | refine T.cond rfl (fun h4 => ?_) (fun h4 => ?_)
  ·
    cases h4 --done
  ·
    refine T.skip ?_
    refine hK2 _ _ ?_
    refine T.seq fun K4 hK4 => ?_
    refine T.region (l := [0, 1, 2, 3]) rfl ?_
    refine RN.E rfl rfl rfl rfl (e_buildSlice0 rfl Try.underlying49 ti_5 rfl) ?_
    rintro _ _ ⟨b5, rfl, rfl⟩
    refine RN.ent (Ent.cons (vec_empty (sz := 1)) (Ent.refl _)) ?_
    refine RN.qq rfl rfl rfl rfl (PRun.q (p_move rfl (by conv => lhs; whnf))) ?_
    refine RN.E rfl rfl rfl rfl (e_append rfl Try.underlying49 ni_49 ti_5 rfl rfl (i := 0) rfl (src_row (n := n) (i := 1) rfl (by omega) (by rw [Nat.mul_one]; exact hy)) one_u8 (by omega)) ?_
    rintro v7 _ ⟨hv7, rfl⟩
    refine RN.qq rfl rfl rfl rfl (PRun.q (p_assign rfl (by conv => lhs; whnf))) ?_
    refine RN.nil ?_
    refine hK4 _ _ ?_
    refine T.ret ?_
    rw [Nat.zero_add, List.nil_append]
    refine bodyQ_ret [vec 5 1 v7 n (l.map u8V), row b 5 cs] (RetRun.tmp RetRun.nil) ⟨hv7, rfl⟩ (Ent.refl _)

end Go.Proofs.Yticfabhcfdmbjaa
