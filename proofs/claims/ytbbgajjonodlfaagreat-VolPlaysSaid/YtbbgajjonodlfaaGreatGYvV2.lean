/-
 Volumes: walked.
-/
import Derived.Test.YtbbgajjonodlfaaGreatGYvV1
import Derived.Test.YtbbgajjonodlfaaGreatGYvN1
import Derived.Test.YtbbgajjonodlfaaGreatGSl26
import Derived.Test.YtbbgajjonodlfaaGreatGModelVo
set_option linter.unusedVariables false
set_option linter.unusedSimpArgs false
namespace Go.Proofs.YtbbgajjonodlfaaGreat
open Go Go.Sl Go.Proofs
set_option maxRecDepth 20000
open Go.Mo Go.Evl
theorem Good_A (l : List UInt8) : Ctr Tryz.prog 18 [strV l] [] (fun v Ps => v = .bool (gb l) ∧ Ps = []) :=
 (Good_spec l).mono (Ent.refl _) (by
  rintro v Ps ⟨r, rfl, hr, rfl⟩
  exact ⟨[], ⟨congrArg Value.bool (gb_eq hr), rfl⟩, Ent.refl _⟩)

theorem read_spec (b : List UInt8) (c : Nat) (hb : b.length = 32) (hc : c ≤ 512) : Ctr Tryz.prog 30 [strV b, intV c] [] (fun v Ps => v = .agg (rdE c b).cells.toArray ∧ Ps = []) := by
 refine Ctr.of_body Tryz.func30 rfl (by kernel_rfl) Tryz.ntmps30 rfl rfl (fun Fr => ?_)
 have hF : (saysT b).first = leV (piece b 18 2) := rfl
 have hL : (saysT b).len = leV (piece b 20 2) := rfl
 have hl18 : ((b.take 20).drop 18).length = 2 := by rw [List.length_drop, List.length_take]; omega
 have hl20 : ((b.take 22).drop 20).length = 2 := by rw [List.length_drop, List.length_take]; omega
 have hp18 : leV (piece b 18 2) < 65536 := Nat.lt_of_lt_of_le (leV_lt _) (by rw [show (piece b 18 2).length = 2 from (by rw [piece, List.length_drop, List.length_take]; omega)]; decide)
 have hp20 : leV (piece b 20 2) < 65536 := Nat.lt_of_lt_of_le (leV_lt _) (by rw [show (piece b 20 2).length = 2 from (by rw [piece, List.length_drop, List.length_take]; omega)]; decide)
 refine T.seq fun K1 hK1 => ?_
 refine T.region (l := [0]) rfl ?_
 refine RN.E rfl rfl rfl rfl (e_alloc rfl ti_49) ?_
 rintro _ _ ⟨b4, rfl, rfl⟩
 refine RN.nil ?_
 refine hK1 _ _ ?_
 refine T.seq fun K2 hK2 => ?_
 refine T.region (l := [0, 1, 2, 3]) rfl ?_
 refine RN.m rfl ?_
 refine RN.p rfl (by exact (p_indexN_s (n := 1) rfl Tryz.underlying9 rfl rfl (show b[1]? = some (b.getD 1 0) by rw [List.getD_eq_getElem?_getD, List.getElem?_eq_getElem (by omega)]; rfl))) ?_
 refine RN.p rfl (p_conv_i64 rfl Tryz.underlying5 Tryz.underlying3 rfl (by have := (b.getD 1 0).toNat_lt; omega)) ?_
 refine RN.a rfl ?_
 refine RN.nil ?_
 refine hK2 _ _ ?_
 refine T.seq fun K3 hK3 => ?_
 refine T.seq fun K4 hK4 => ?_
 refine T.region (l := [0, 1]) rfl ?_
 refine RN.m rfl ?_
 refine RN.p rfl (p_gtr rfl rfl rfl) ?_
 refine RN.nil ?_
 refine hK4 _ _ ?_
 refine T.cond_dec rfl (fun h11 => ?_) (fun h11 => ?_)
 ·
  refine T.seq fun K5 hK5 => ?_
  refine T.region (l := [0, 1]) rfl ?_
  refine RN.p rfl (p_build rfl pl_49 ti_49 (by dsimp [layAll, lay]; rfl)) ?_
  refine RN.EN rfl rfl rfl (by exact (e_storeA rfl ts_49 rfl rfl rfl (VE.cells_one VE.zero) (i := 0) rfl (by (simp; done)))) ?_
  rintro _ _ ⟨rfl, rfl⟩
  refine RN.nil ?_
  refine hK5 _ _ ?_
  refine T.ret ?_
  refine Post.seq_r ?_
  refine bodyQ_ret [] (RetRun.cell rfl (load_cellV ag_49 ts_49 (i := 0) rfl (Nat.le_refl 3) rfl) RetRun.nil) ⟨by unfold rdE; rw [if_neg (fun h => by have := h.1; omega)]; rfl, rfl⟩ (Ent.drop _ _)
 ·
  have h0 : (b.getD 1 0).toNat ≤ 16 := by omega
  refine T.skip ?_
  refine hK3 _ _ ?_
  refine T.cut (G := Nat) (fun b6 => True) (fun b6 => [(0, strV b), (1, intV c), (4, ptr b4 0), (6, ptr b6 0)]) (fun b6 => [row b6 49 (saysT b).cells, row b4 49 VE.zero.cells, Fr]) ?_ ?_
  ·
   -- EFFECTS UNORDERED [6, 11, 15]
   -- EFFECTS UNORDERED [7, 11, 15]
   -- EFFECTS UNORDERED [11, 15]
   -- EFFECTS UNORDERED [12, 15]
   refine T.regionT3 (z := 16) (Bs := []) (t := .br3 [(0, .pure), (1, .pure), (2, .pure), (3, .pure), (4, .pure), (5, .pure), (9, .pure), (10, .pure)] 6 (.br3 [] 7 (.br [(8, .pure)] 11 (.br [] 12 (.go [(13, .pure), (14, .pure), (15, .eff), (16, .eff)]) 15 (.go [(12, .eff), (13, .pure), (14, .pure), (16, .eff)])) 15 (.go [(11, .eff), (12, .eff), (13, .pure), (14, .pure), (16, .eff)])) 11 (.br [] 7 (.br [(8, .pure)] 12 (.go [(13, .pure), (14, .pure), (15, .eff), (16, .eff)]) 15 (.go [(12, .eff), (13, .pure), (14, .pure), (16, .eff)])) 15 (.go [(7, .eff), (8, .pure), (12, .eff), (13, .pure), (14, .pure), (16, .eff)])) 15 (.br [] 7 (.go [(8, .pure), (11, .eff), (12, .eff), (13, .pure), (14, .pure), (16, .eff)]) 11 (.go [(7, .eff), (8, .pure), (12, .eff), (13, .pure), (14, .pure), (16, .eff)]))) 11 (.br [] 6 (.br [] 7 (.br [(8, .pure)] 12 (.go [(13, .pure), (14, .pure), (15, .eff), (16, .eff)]) 15 (.go [(12, .eff), (13, .pure), (14, .pure), (16, .eff)])) 15 (.go [(7, .eff), (8, .pure), (12, .eff), (13, .pure), (14, .pure), (16, .eff)])) 15 (.go [(6, .eff), (7, .eff), (8, .pure), (12, .eff), (13, .pure), (14, .pure), (16, .eff)])) 15 (.br [] 6 (.br [] 7 (.go [(8, .pure), (11, .eff), (12, .eff), (13, .pure), (14, .pure), (16, .eff)]) 11 (.go [(7, .eff), (8, .pure), (12, .eff), (13, .pure), (14, .pure), (16, .eff)])) 11 (.go [(6, .eff), (7, .eff), (8, .pure), (12, .eff), (13, .pure), (14, .pure), (16, .eff)]))) mixed (by kernel_rfl) (Ent.nil _) ?_
   refine RDT3.br3 ?_
   refine RD.n rfl (p_move rfl (by conv => lhs; whnf)) ?_
   refine RD.n rfl (p_move rfl (by conv => lhs; whnf)) ?_
   refine RD.n rfl (by exact (p_addN (a := 2) rfl rfl rfl (by omega))) ?_
   refine RD.n rfl (by exact (p_sliceN_s (l := 2) rfl Tryz.underlying9 rfl rfl rfl (by omega))) ?_
   refine RD.n rfl (p_move rfl (by conv => lhs; whnf)) ?_
   refine RD.n rfl (by exact (p_sliceN_s (l := 18) (h := 20) rfl Tryz.underlying9 rfl rfl rfl (by omega))) ?_
   refine RD.n rfl (p_move rfl (by conv => lhs; whnf)) ?_
   refine RD.n rfl (by exact (p_sliceN_s (l := 20) (h := 22) rfl Tryz.underlying9 rfl rfl rfl (by omega))) ?_
   refine RD.nil ?_
   refine ⟨?_, ?_, ?_⟩
   ·
    refine RD.E rfl rfl rfl rfl (e_str_bytes rfl Tryz.underlying9 Tryz.underlying57 Tryz.underlying5 rfl (by rw [List.length_drop, List.length_take]; omega)) (by rintro _ _ ⟨_, _, _, _, rfl, rfl⟩; exact .inl (Ent.nil _)) ?_
    rintro _ _ ⟨b19, cap19, hcl19, hcm19, rfl, rfl⟩
    refine RD.nil ?_
    refine RDT3.br3 ?_
    refine RD.nil ?_
    refine ⟨?_, ?_, ?_⟩
    ·
     refine RD.known 19 rfl (show _ = slc b19 0 2 cap19 from congrArg (fun n => slc b19 0 n cap19) hl18) ?_
     refine RD.C [0] rfl rfl rfl rfl (c_call rfl rfl) (get_spec b19 2 cap19 5 (piece b 18 2) _ (by rw [piece, List.length_drop, List.length_take]; omega) (by decide)) rfl (by rintro _ _ ⟨rfl, rfl⟩; exact .inl (Ent.nil _)) ?_
     rintro _ _ ⟨rfl, rfl⟩
     refine RD.nil ?_
     refine RDT3.br ?_
     refine RD.n rfl (p_conv_i64 rfl Tryz.underlying107 Tryz.underlying3 rfl (by omega)) ?_
     refine RD.nil ?_
     refine ⟨?_, ?_⟩
     ·
      refine RD.E rfl rfl rfl rfl (e_str_bytes rfl Tryz.underlying9 Tryz.underlying57 Tryz.underlying5 rfl (by rw [List.length_drop, List.length_take]; omega)) (by rintro _ _ ⟨_, _, _, _, rfl, rfl⟩; exact .inl (Ent.nil _)) ?_
      rintro _ _ ⟨b24, cap24, hcl24, hcm24, rfl, rfl⟩
      refine RD.nil ?_
      refine RDT3.br ?_
      refine RD.nil ?_
      refine ⟨?_, ?_⟩
      ·
       refine RD.known 24 rfl (show _ = slc b24 0 2 cap24 from congrArg (fun n => slc b24 0 n cap24) hl20) ?_
       refine RD.C [0] rfl rfl rfl rfl (c_call rfl rfl) (get_spec b24 2 cap24 5 (piece b 20 2) _ (by rw [piece, List.length_drop, List.length_take]; omega) (by decide)) rfl (by rintro _ _ ⟨rfl, rfl⟩; exact .inl (Ent.nil _)) ?_
       rintro _ _ ⟨rfl, rfl⟩
       refine RD.nil ?_
       refine RDT3.go ?_
       refine RD.n rfl (p_conv_i64 rfl Tryz.underlying107 Tryz.underlying3 rfl (by omega)) ?_
       refine RD.n rfl (p_build rfl pl_49 ti_49 (by dsimp [layAll, lay]; rfl)) ?_
       refine RD.E rfl rfl rfl rfl (e_alloc rfl ti_49) (by rintro _ _ ⟨_, rfl, rfl⟩; exact .inl (Ent.nil _)) ?_
       rintro _ _ ⟨b6, rfl, rfl⟩
       refine RD.EN rfl rfl rfl (by exact (e_storeA rfl ts_49 rfl rfl rfl (VE.cells_one (saysT b)) (i := 0) rfl (by (simp; done)))) (fun _ _ _ => .inr rfl) ?_
       rintro _ _ ⟨rfl, rfl⟩
       refine RD.nil ?_
       refine ⟨b6, trivial, (LiveIs.cons rfl (LiveIs.cons rfl (LiveIs.cons rfl (LiveIs.cons rfl LiveIs.nil)))), (by exact Ent.pull_drop (is := [0, 2, 2]) rfl)⟩
      ·
       refine RD.E rfl rfl rfl rfl (e_alloc rfl ti_49) (by rintro _ _ ⟨_, rfl, rfl⟩; exact .inl (Ent.nil _)) ?_
       rintro _ _ ⟨b6, rfl, rfl⟩
       refine RD.nil ?_
       refine RDT3.go ?_
       refine RD.known 24 rfl (show _ = slc b24 0 2 cap24 from congrArg (fun n => slc b24 0 n cap24) hl20) ?_
       refine RD.C [1] rfl rfl rfl rfl (c_call rfl rfl) (get_spec b24 2 cap24 5 (piece b 20 2) _ (by rw [piece, List.length_drop, List.length_take]; omega) (by decide)) rfl (by rintro _ _ ⟨rfl, rfl⟩; exact .inl (Ent.nil _)) ?_
       rintro _ _ ⟨rfl, rfl⟩
       refine RD.n rfl (p_conv_i64 rfl Tryz.underlying107 Tryz.underlying3 rfl (by omega)) ?_
       refine RD.n rfl (p_build rfl pl_49 ti_49 (by dsimp [layAll, lay]; rfl)) ?_
       refine RD.EN rfl rfl rfl (by exact (e_storeA rfl ts_49 rfl rfl rfl (VE.cells_one (saysT b)) (i := 1) rfl (by (simp; done)))) (fun _ _ _ => .inr rfl) ?_
       rintro _ _ ⟨rfl, rfl⟩
       refine RD.nil ?_
       refine ⟨b6, trivial, (LiveIs.cons rfl (LiveIs.cons rfl (LiveIs.cons rfl (LiveIs.cons rfl LiveIs.nil)))), (by exact Ent.pull_drop (is := [1, 2, 2]) rfl)⟩
     ·
      refine RD.E rfl rfl rfl rfl (e_alloc rfl ti_49) (by rintro _ _ ⟨_, rfl, rfl⟩; exact .inl (Ent.nil _)) ?_
      rintro _ _ ⟨b6, rfl, rfl⟩
      refine RD.nil ?_
      refine RDT3.go ?_
      refine RD.E rfl rfl rfl rfl (e_str_bytes rfl Tryz.underlying9 Tryz.underlying57 Tryz.underlying5 rfl (by rw [List.length_drop, List.length_take]; omega)) (by rintro _ _ ⟨_, _, _, _, rfl, rfl⟩; exact .inl (Ent.nil _)) ?_
      rintro _ _ ⟨b24, cap24, hcl24, hcm24, rfl, rfl⟩
      refine RD.known 24 rfl (show _ = slc b24 0 2 cap24 from congrArg (fun n => slc b24 0 n cap24) hl20) ?_
      refine RD.C [0] rfl rfl rfl rfl (c_call rfl rfl) (get_spec b24 2 cap24 5 (piece b 20 2) _ (by rw [piece, List.length_drop, List.length_take]; omega) (by decide)) rfl (by rintro _ _ ⟨rfl, rfl⟩; exact .inl (Ent.nil _)) ?_
      rintro _ _ ⟨rfl, rfl⟩
      refine RD.n rfl (p_conv_i64 rfl Tryz.underlying107 Tryz.underlying3 rfl (by omega)) ?_
      refine RD.n rfl (p_build rfl pl_49 ti_49 (by dsimp [layAll, lay]; rfl)) ?_
      refine RD.EN rfl rfl rfl (by exact (e_storeA rfl ts_49 rfl rfl rfl (VE.cells_one (saysT b)) (i := 1) rfl (by (simp; done)))) (fun _ _ _ => .inr rfl) ?_
      rintro _ _ ⟨rfl, rfl⟩
      refine RD.nil ?_
      refine ⟨b6, trivial, (LiveIs.cons rfl (LiveIs.cons rfl (LiveIs.cons rfl (LiveIs.cons rfl LiveIs.nil)))), (by exact Ent.pull_drop (is := [1, 2, 2]) rfl)⟩
    ·
     refine RD.E rfl rfl rfl rfl (e_str_bytes rfl Tryz.underlying9 Tryz.underlying57 Tryz.underlying5 rfl (by rw [List.length_drop, List.length_take]; omega)) (by rintro _ _ ⟨_, _, _, _, rfl, rfl⟩; exact .inl (Ent.nil _)) ?_
     rintro _ _ ⟨b24, cap24, hcl24, hcm24, rfl, rfl⟩
     refine RD.nil ?_
     refine RDT3.br ?_
     refine RD.nil ?_
     refine ⟨?_, ?_⟩
     ·
      refine RD.known 19 rfl (show _ = slc b19 0 2 cap19 from congrArg (fun n => slc b19 0 n cap19) hl18) ?_
      refine RD.C [1] rfl rfl rfl rfl (c_call rfl rfl) (get_spec b19 2 cap19 5 (piece b 18 2) _ (by rw [piece, List.length_drop, List.length_take]; omega) (by decide)) rfl (by rintro _ _ ⟨rfl, rfl⟩; exact .inl (Ent.nil _)) ?_
      rintro _ _ ⟨rfl, rfl⟩
      refine RD.nil ?_
      refine RDT3.br ?_
      refine RD.n rfl (p_conv_i64 rfl Tryz.underlying107 Tryz.underlying3 rfl (by omega)) ?_
      refine RD.nil ?_
      refine ⟨?_, ?_⟩
      ·
       refine RD.known 24 rfl (show _ = slc b24 0 2 cap24 from congrArg (fun n => slc b24 0 n cap24) hl20) ?_
       refine RD.C [1] rfl rfl rfl rfl (c_call rfl rfl) (get_spec b24 2 cap24 5 (piece b 20 2) _ (by rw [piece, List.length_drop, List.length_take]; omega) (by decide)) rfl (by rintro _ _ ⟨rfl, rfl⟩; exact .inl (Ent.nil _)) ?_
       rintro _ _ ⟨rfl, rfl⟩
       refine RD.nil ?_
       refine RDT3.go ?_
       refine RD.n rfl (p_conv_i64 rfl Tryz.underlying107 Tryz.underlying3 rfl (by omega)) ?_
       refine RD.n rfl (p_build rfl pl_49 ti_49 (by dsimp [layAll, lay]; rfl)) ?_
       refine RD.E rfl rfl rfl rfl (e_alloc rfl ti_49) (by rintro _ _ ⟨_, rfl, rfl⟩; exact .inl (Ent.nil _)) ?_
       rintro _ _ ⟨b6, rfl, rfl⟩
       refine RD.EN rfl rfl rfl (by exact (e_storeA rfl ts_49 rfl rfl rfl (VE.cells_one (saysT b)) (i := 0) rfl (by (simp; done)))) (fun _ _ _ => .inr rfl) ?_
       rintro _ _ ⟨rfl, rfl⟩
       refine RD.nil ?_
       refine ⟨b6, trivial, (LiveIs.cons rfl (LiveIs.cons rfl (LiveIs.cons rfl (LiveIs.cons rfl LiveIs.nil)))), (by exact Ent.pull_drop (is := [0, 2, 2]) rfl)⟩
      ·
       refine RD.E rfl rfl rfl rfl (e_alloc rfl ti_49) (by rintro _ _ ⟨_, rfl, rfl⟩; exact .inl (Ent.nil _)) ?_
       rintro _ _ ⟨b6, rfl, rfl⟩
       refine RD.nil ?_
       refine RDT3.go ?_
       refine RD.known 24 rfl (show _ = slc b24 0 2 cap24 from congrArg (fun n => slc b24 0 n cap24) hl20) ?_
       refine RD.C [2] rfl rfl rfl rfl (c_call rfl rfl) (get_spec b24 2 cap24 5 (piece b 20 2) _ (by rw [piece, List.length_drop, List.length_take]; omega) (by decide)) rfl (by rintro _ _ ⟨rfl, rfl⟩; exact .inl (Ent.nil _)) ?_
       rintro _ _ ⟨rfl, rfl⟩
       refine RD.n rfl (p_conv_i64 rfl Tryz.underlying107 Tryz.underlying3 rfl (by omega)) ?_
       refine RD.n rfl (p_build rfl pl_49 ti_49 (by dsimp [layAll, lay]; rfl)) ?_
       refine RD.EN rfl rfl rfl (by exact (e_storeA rfl ts_49 rfl rfl rfl (VE.cells_one (saysT b)) (i := 1) rfl (by (simp; done)))) (fun _ _ _ => .inr rfl) ?_
       rintro _ _ ⟨rfl, rfl⟩
       refine RD.nil ?_
       refine ⟨b6, trivial, (LiveIs.cons rfl (LiveIs.cons rfl (LiveIs.cons rfl (LiveIs.cons rfl LiveIs.nil)))), (by exact Ent.pull_drop (is := [1, 2, 2]) rfl)⟩
     ·
      refine RD.E rfl rfl rfl rfl (e_alloc rfl ti_49) (by rintro _ _ ⟨_, rfl, rfl⟩; exact .inl (Ent.nil _)) ?_
      rintro _ _ ⟨b6, rfl, rfl⟩
      refine RD.nil ?_
      refine RDT3.go ?_
      refine RD.known 19 rfl (show _ = slc b19 0 2 cap19 from congrArg (fun n => slc b19 0 n cap19) hl18) ?_
      refine RD.C [2] rfl rfl rfl rfl (c_call rfl rfl) (get_spec b19 2 cap19 5 (piece b 18 2) _ (by rw [piece, List.length_drop, List.length_take]; omega) (by decide)) rfl (by rintro _ _ ⟨rfl, rfl⟩; exact .inl (Ent.nil _)) ?_
      rintro _ _ ⟨rfl, rfl⟩
      refine RD.n rfl (p_conv_i64 rfl Tryz.underlying107 Tryz.underlying3 rfl (by omega)) ?_
      refine RD.known 24 rfl (show _ = slc b24 0 2 cap24 from congrArg (fun n => slc b24 0 n cap24) hl20) ?_
      refine RD.C [2] rfl rfl rfl rfl (c_call rfl rfl) (get_spec b24 2 cap24 5 (piece b 20 2) _ (by rw [piece, List.length_drop, List.length_take]; omega) (by decide)) rfl (by rintro _ _ ⟨rfl, rfl⟩; exact .inl (Ent.nil _)) ?_
      rintro _ _ ⟨rfl, rfl⟩
      refine RD.n rfl (p_conv_i64 rfl Tryz.underlying107 Tryz.underlying3 rfl (by omega)) ?_
      refine RD.n rfl (p_build rfl pl_49 ti_49 (by dsimp [layAll, lay]; rfl)) ?_
      refine RD.EN rfl rfl rfl (by exact (e_storeA rfl ts_49 rfl rfl rfl (VE.cells_one (saysT b)) (i := 2) rfl (by (simp; done)))) (fun _ _ _ => .inr rfl) ?_
      rintro _ _ ⟨rfl, rfl⟩
      refine RD.nil ?_
      refine ⟨b6, trivial, (LiveIs.cons rfl (LiveIs.cons rfl (LiveIs.cons rfl (LiveIs.cons rfl LiveIs.nil)))), (by exact Ent.pull_drop (is := [2, 2, 2]) rfl)⟩
    ·
     refine RD.E rfl rfl rfl rfl (e_alloc rfl ti_49) (by rintro _ _ ⟨_, rfl, rfl⟩; exact .inl (Ent.nil _)) ?_
     rintro _ _ ⟨b6, rfl, rfl⟩
     refine RD.nil ?_
     refine RDT3.br ?_
     refine RD.nil ?_
     refine ⟨?_, ?_⟩
     ·
      refine RD.known 19 rfl (show _ = slc b19 0 2 cap19 from congrArg (fun n => slc b19 0 n cap19) hl18) ?_
      refine RD.C [1] rfl rfl rfl rfl (c_call rfl rfl) (get_spec b19 2 cap19 5 (piece b 18 2) _ (by rw [piece, List.length_drop, List.length_take]; omega) (by decide)) rfl (by rintro _ _ ⟨rfl, rfl⟩; exact .inl (Ent.nil _)) ?_
      rintro _ _ ⟨rfl, rfl⟩
      refine RD.nil ?_
      refine RDT3.go ?_
      refine RD.n rfl (p_conv_i64 rfl Tryz.underlying107 Tryz.underlying3 rfl (by omega)) ?_
      refine RD.E rfl rfl rfl rfl (e_str_bytes rfl Tryz.underlying9 Tryz.underlying57 Tryz.underlying5 rfl (by rw [List.length_drop, List.length_take]; omega)) (by rintro _ _ ⟨_, _, _, _, rfl, rfl⟩; exact .inl (Ent.nil _)) ?_
      rintro _ _ ⟨b24, cap24, hcl24, hcm24, rfl, rfl⟩
      refine RD.known 24 rfl (show _ = slc b24 0 2 cap24 from congrArg (fun n => slc b24 0 n cap24) hl20) ?_
      refine RD.C [0] rfl rfl rfl rfl (c_call rfl rfl) (get_spec b24 2 cap24 5 (piece b 20 2) _ (by rw [piece, List.length_drop, List.length_take]; omega) (by decide)) rfl (by rintro _ _ ⟨rfl, rfl⟩; exact .inl (Ent.nil _)) ?_
      rintro _ _ ⟨rfl, rfl⟩
      refine RD.n rfl (p_conv_i64 rfl Tryz.underlying107 Tryz.underlying3 rfl (by omega)) ?_
      refine RD.n rfl (p_build rfl pl_49 ti_49 (by dsimp [layAll, lay]; rfl)) ?_
      refine RD.EN rfl rfl rfl (by exact (e_storeA rfl ts_49 rfl rfl rfl (VE.cells_one (saysT b)) (i := 2) rfl (by (simp; done)))) (fun _ _ _ => .inr rfl) ?_
      rintro _ _ ⟨rfl, rfl⟩
      refine RD.nil ?_
      refine ⟨b6, trivial, (LiveIs.cons rfl (LiveIs.cons rfl (LiveIs.cons rfl (LiveIs.cons rfl LiveIs.nil)))), (by exact Ent.pull_drop (is := [2, 2, 2]) rfl)⟩
     ·
      refine RD.E rfl rfl rfl rfl (e_str_bytes rfl Tryz.underlying9 Tryz.underlying57 Tryz.underlying5 rfl (by rw [List.length_drop, List.length_take]; omega)) (by rintro _ _ ⟨_, _, _, _, rfl, rfl⟩; exact .inl (Ent.nil _)) ?_
      rintro _ _ ⟨b24, cap24, hcl24, hcm24, rfl, rfl⟩
      refine RD.nil ?_
      refine RDT3.go ?_
      refine RD.known 19 rfl (show _ = slc b19 0 2 cap19 from congrArg (fun n => slc b19 0 n cap19) hl18) ?_
      refine RD.C [2] rfl rfl rfl rfl (c_call rfl rfl) (get_spec b19 2 cap19 5 (piece b 18 2) _ (by rw [piece, List.length_drop, List.length_take]; omega) (by decide)) rfl (by rintro _ _ ⟨rfl, rfl⟩; exact .inl (Ent.nil _)) ?_
      rintro _ _ ⟨rfl, rfl⟩
      refine RD.n rfl (p_conv_i64 rfl Tryz.underlying107 Tryz.underlying3 rfl (by omega)) ?_
      refine RD.known 24 rfl (show _ = slc b24 0 2 cap24 from congrArg (fun n => slc b24 0 n cap24) hl20) ?_
      refine RD.C [1] rfl rfl rfl rfl (c_call rfl rfl) (get_spec b24 2 cap24 5 (piece b 20 2) _ (by rw [piece, List.length_drop, List.length_take]; omega) (by decide)) rfl (by rintro _ _ ⟨rfl, rfl⟩; exact .inl (Ent.nil _)) ?_
      rintro _ _ ⟨rfl, rfl⟩
      refine RD.n rfl (p_conv_i64 rfl Tryz.underlying107 Tryz.underlying3 rfl (by omega)) ?_
      refine RD.n rfl (p_build rfl pl_49 ti_49 (by dsimp [layAll, lay]; rfl)) ?_
      refine RD.EN rfl rfl rfl (by exact (e_storeA rfl ts_49 rfl rfl rfl (VE.cells_one (saysT b)) (i := 2) rfl (by (simp; done)))) (fun _ _ _ => .inr rfl) ?_
      rintro _ _ ⟨rfl, rfl⟩
      refine RD.nil ?_
      refine ⟨b6, trivial, (LiveIs.cons rfl (LiveIs.cons rfl (LiveIs.cons rfl (LiveIs.cons rfl LiveIs.nil)))), (by exact Ent.pull_drop (is := [2, 2, 2]) rfl)⟩
   ·
    refine RD.E rfl rfl rfl rfl (e_str_bytes rfl Tryz.underlying9 Tryz.underlying57 Tryz.underlying5 rfl (by rw [List.length_drop, List.length_take]; omega)) (by rintro _ _ ⟨_, _, _, _, rfl, rfl⟩; exact .inl (Ent.nil _)) ?_
    rintro _ _ ⟨b24, cap24, hcl24, hcm24, rfl, rfl⟩
    refine RD.nil ?_
    refine RDT3.br ?_
    refine RD.nil ?_
    refine ⟨?_, ?_⟩
    ·
     refine RD.E rfl rfl rfl rfl (e_str_bytes rfl Tryz.underlying9 Tryz.underlying57 Tryz.underlying5 rfl (by rw [List.length_drop, List.length_take]; omega)) (by rintro _ _ ⟨_, _, _, _, rfl, rfl⟩; exact .inl (Ent.nil _)) ?_
     rintro _ _ ⟨b19, cap19, hcl19, hcm19, rfl, rfl⟩
     refine RD.nil ?_
     refine RDT3.br ?_
     refine RD.nil ?_
     refine ⟨?_, ?_⟩
     ·
      refine RD.known 19 rfl (show _ = slc b19 0 2 cap19 from congrArg (fun n => slc b19 0 n cap19) hl18) ?_
      refine RD.C [0] rfl rfl rfl rfl (c_call rfl rfl) (get_spec b19 2 cap19 5 (piece b 18 2) _ (by rw [piece, List.length_drop, List.length_take]; omega) (by decide)) rfl (by rintro _ _ ⟨rfl, rfl⟩; exact .inl (Ent.nil _)) ?_
      rintro _ _ ⟨rfl, rfl⟩
      refine RD.nil ?_
      refine RDT3.br ?_
      refine RD.n rfl (p_conv_i64 rfl Tryz.underlying107 Tryz.underlying3 rfl (by omega)) ?_
      refine RD.nil ?_
      refine ⟨?_, ?_⟩
      ·
       refine RD.known 24 rfl (show _ = slc b24 0 2 cap24 from congrArg (fun n => slc b24 0 n cap24) hl20) ?_
       refine RD.C [1] rfl rfl rfl rfl (c_call rfl rfl) (get_spec b24 2 cap24 5 (piece b 20 2) _ (by rw [piece, List.length_drop, List.length_take]; omega) (by decide)) rfl (by rintro _ _ ⟨rfl, rfl⟩; exact .inl (Ent.nil _)) ?_
       rintro _ _ ⟨rfl, rfl⟩
       refine RD.nil ?_
       refine RDT3.go ?_
       refine RD.n rfl (p_conv_i64 rfl Tryz.underlying107 Tryz.underlying3 rfl (by omega)) ?_
       refine RD.n rfl (p_build rfl pl_49 ti_49 (by dsimp [layAll, lay]; rfl)) ?_
       refine RD.E rfl rfl rfl rfl (e_alloc rfl ti_49) (by rintro _ _ ⟨_, rfl, rfl⟩; exact .inl (Ent.nil _)) ?_
       rintro _ _ ⟨b6, rfl, rfl⟩
       refine RD.EN rfl rfl rfl (by exact (e_storeA rfl ts_49 rfl rfl rfl (VE.cells_one (saysT b)) (i := 0) rfl (by (simp; done)))) (fun _ _ _ => .inr rfl) ?_
       rintro _ _ ⟨rfl, rfl⟩
       refine RD.nil ?_
       refine ⟨b6, trivial, (LiveIs.cons rfl (LiveIs.cons rfl (LiveIs.cons rfl (LiveIs.cons rfl LiveIs.nil)))), (by exact Ent.pull_drop (is := [0, 2, 2]) rfl)⟩
      ·
       refine RD.E rfl rfl rfl rfl (e_alloc rfl ti_49) (by rintro _ _ ⟨_, rfl, rfl⟩; exact .inl (Ent.nil _)) ?_
       rintro _ _ ⟨b6, rfl, rfl⟩
       refine RD.nil ?_
       refine RDT3.go ?_
       refine RD.known 24 rfl (show _ = slc b24 0 2 cap24 from congrArg (fun n => slc b24 0 n cap24) hl20) ?_
       refine RD.C [2] rfl rfl rfl rfl (c_call rfl rfl) (get_spec b24 2 cap24 5 (piece b 20 2) _ (by rw [piece, List.length_drop, List.length_take]; omega) (by decide)) rfl (by rintro _ _ ⟨rfl, rfl⟩; exact .inl (Ent.nil _)) ?_
       rintro _ _ ⟨rfl, rfl⟩
       refine RD.n rfl (p_conv_i64 rfl Tryz.underlying107 Tryz.underlying3 rfl (by omega)) ?_
       refine RD.n rfl (p_build rfl pl_49 ti_49 (by dsimp [layAll, lay]; rfl)) ?_
       refine RD.EN rfl rfl rfl (by exact (e_storeA rfl ts_49 rfl rfl rfl (VE.cells_one (saysT b)) (i := 1) rfl (by (simp; done)))) (fun _ _ _ => .inr rfl) ?_
       rintro _ _ ⟨rfl, rfl⟩
       refine RD.nil ?_
       refine ⟨b6, trivial, (LiveIs.cons rfl (LiveIs.cons rfl (LiveIs.cons rfl (LiveIs.cons rfl LiveIs.nil)))), (by exact Ent.pull_drop (is := [1, 2, 2]) rfl)⟩
     ·
      refine RD.E rfl rfl rfl rfl (e_alloc rfl ti_49) (by rintro _ _ ⟨_, rfl, rfl⟩; exact .inl (Ent.nil _)) ?_
      rintro _ _ ⟨b6, rfl, rfl⟩
      refine RD.nil ?_
      refine RDT3.go ?_
      refine RD.known 19 rfl (show _ = slc b19 0 2 cap19 from congrArg (fun n => slc b19 0 n cap19) hl18) ?_
      refine RD.C [1] rfl rfl rfl rfl (c_call rfl rfl) (get_spec b19 2 cap19 5 (piece b 18 2) _ (by rw [piece, List.length_drop, List.length_take]; omega) (by decide)) rfl (by rintro _ _ ⟨rfl, rfl⟩; exact .inl (Ent.nil _)) ?_
      rintro _ _ ⟨rfl, rfl⟩
      refine RD.n rfl (p_conv_i64 rfl Tryz.underlying107 Tryz.underlying3 rfl (by omega)) ?_
      refine RD.known 24 rfl (show _ = slc b24 0 2 cap24 from congrArg (fun n => slc b24 0 n cap24) hl20) ?_
      refine RD.C [2] rfl rfl rfl rfl (c_call rfl rfl) (get_spec b24 2 cap24 5 (piece b 20 2) _ (by rw [piece, List.length_drop, List.length_take]; omega) (by decide)) rfl (by rintro _ _ ⟨rfl, rfl⟩; exact .inl (Ent.nil _)) ?_
      rintro _ _ ⟨rfl, rfl⟩
      refine RD.n rfl (p_conv_i64 rfl Tryz.underlying107 Tryz.underlying3 rfl (by omega)) ?_
      refine RD.n rfl (p_build rfl pl_49 ti_49 (by dsimp [layAll, lay]; rfl)) ?_
      refine RD.EN rfl rfl rfl (by exact (e_storeA rfl ts_49 rfl rfl rfl (VE.cells_one (saysT b)) (i := 2) rfl (by (simp; done)))) (fun _ _ _ => .inr rfl) ?_
      rintro _ _ ⟨rfl, rfl⟩
      refine RD.nil ?_
      refine ⟨b6, trivial, (LiveIs.cons rfl (LiveIs.cons rfl (LiveIs.cons rfl (LiveIs.cons rfl LiveIs.nil)))), (by exact Ent.pull_drop (is := [2, 2, 2]) rfl)⟩
    ·
     refine RD.E rfl rfl rfl rfl (e_alloc rfl ti_49) (by rintro _ _ ⟨_, rfl, rfl⟩; exact .inl (Ent.nil _)) ?_
     rintro _ _ ⟨b6, rfl, rfl⟩
     refine RD.nil ?_
     refine RDT3.go ?_
     refine RD.E rfl rfl rfl rfl (e_str_bytes rfl Tryz.underlying9 Tryz.underlying57 Tryz.underlying5 rfl (by rw [List.length_drop, List.length_take]; omega)) (by rintro _ _ ⟨_, _, _, _, rfl, rfl⟩; exact .inl (Ent.nil _)) ?_
     rintro _ _ ⟨b19, cap19, hcl19, hcm19, rfl, rfl⟩
     refine RD.known 19 rfl (show _ = slc b19 0 2 cap19 from congrArg (fun n => slc b19 0 n cap19) hl18) ?_
     refine RD.C [0] rfl rfl rfl rfl (c_call rfl rfl) (get_spec b19 2 cap19 5 (piece b 18 2) _ (by rw [piece, List.length_drop, List.length_take]; omega) (by decide)) rfl (by rintro _ _ ⟨rfl, rfl⟩; exact .inl (Ent.nil _)) ?_
     rintro _ _ ⟨rfl, rfl⟩
     refine RD.n rfl (p_conv_i64 rfl Tryz.underlying107 Tryz.underlying3 rfl (by omega)) ?_
     refine RD.known 24 rfl (show _ = slc b24 0 2 cap24 from congrArg (fun n => slc b24 0 n cap24) hl20) ?_
     refine RD.C [2] rfl rfl rfl rfl (c_call rfl rfl) (get_spec b24 2 cap24 5 (piece b 20 2) _ (by rw [piece, List.length_drop, List.length_take]; omega) (by decide)) rfl (by rintro _ _ ⟨rfl, rfl⟩; exact .inl (Ent.nil _)) ?_
     rintro _ _ ⟨rfl, rfl⟩
     refine RD.n rfl (p_conv_i64 rfl Tryz.underlying107 Tryz.underlying3 rfl (by omega)) ?_
     refine RD.n rfl (p_build rfl pl_49 ti_49 (by dsimp [layAll, lay]; rfl)) ?_
     refine RD.EN rfl rfl rfl (by exact (e_storeA rfl ts_49 rfl rfl rfl (VE.cells_one (saysT b)) (i := 2) rfl (by (simp; done)))) (fun _ _ _ => .inr rfl) ?_
     rintro _ _ ⟨rfl, rfl⟩
     refine RD.nil ?_
     refine ⟨b6, trivial, (LiveIs.cons rfl (LiveIs.cons rfl (LiveIs.cons rfl (LiveIs.cons rfl LiveIs.nil)))), (by exact Ent.pull_drop (is := [2, 2, 2]) rfl)⟩
   ·
    refine RD.E rfl rfl rfl rfl (e_alloc rfl ti_49) (by rintro _ _ ⟨_, rfl, rfl⟩; exact .inl (Ent.nil _)) ?_
    rintro _ _ ⟨b6, rfl, rfl⟩
    refine RD.nil ?_
    refine RDT3.br ?_
    refine RD.nil ?_
    refine ⟨?_, ?_⟩
    ·
     refine RD.E rfl rfl rfl rfl (e_str_bytes rfl Tryz.underlying9 Tryz.underlying57 Tryz.underlying5 rfl (by rw [List.length_drop, List.length_take]; omega)) (by rintro _ _ ⟨_, _, _, _, rfl, rfl⟩; exact .inl (Ent.nil _)) ?_
     rintro _ _ ⟨b19, cap19, hcl19, hcm19, rfl, rfl⟩
     refine RD.nil ?_
     refine RDT3.br ?_
     refine RD.nil ?_
     refine ⟨?_, ?_⟩
     ·
      refine RD.known 19 rfl (show _ = slc b19 0 2 cap19 from congrArg (fun n => slc b19 0 n cap19) hl18) ?_
      refine RD.C [0] rfl rfl rfl rfl (c_call rfl rfl) (get_spec b19 2 cap19 5 (piece b 18 2) _ (by rw [piece, List.length_drop, List.length_take]; omega) (by decide)) rfl (by rintro _ _ ⟨rfl, rfl⟩; exact .inl (Ent.nil _)) ?_
      rintro _ _ ⟨rfl, rfl⟩
      refine RD.nil ?_
      refine RDT3.go ?_
      refine RD.n rfl (p_conv_i64 rfl Tryz.underlying107 Tryz.underlying3 rfl (by omega)) ?_
      refine RD.E rfl rfl rfl rfl (e_str_bytes rfl Tryz.underlying9 Tryz.underlying57 Tryz.underlying5 rfl (by rw [List.length_drop, List.length_take]; omega)) (by rintro _ _ ⟨_, _, _, _, rfl, rfl⟩; exact .inl (Ent.nil _)) ?_
      rintro _ _ ⟨b24, cap24, hcl24, hcm24, rfl, rfl⟩
      refine RD.known 24 rfl (show _ = slc b24 0 2 cap24 from congrArg (fun n => slc b24 0 n cap24) hl20) ?_
      refine RD.C [0] rfl rfl rfl rfl (c_call rfl rfl) (get_spec b24 2 cap24 5 (piece b 20 2) _ (by rw [piece, List.length_drop, List.length_take]; omega) (by decide)) rfl (by rintro _ _ ⟨rfl, rfl⟩; exact .inl (Ent.nil _)) ?_
      rintro _ _ ⟨rfl, rfl⟩
      refine RD.n rfl (p_conv_i64 rfl Tryz.underlying107 Tryz.underlying3 rfl (by omega)) ?_
      refine RD.n rfl (p_build rfl pl_49 ti_49 (by dsimp [layAll, lay]; rfl)) ?_
      refine RD.EN rfl rfl rfl (by exact (e_storeA rfl ts_49 rfl rfl rfl (VE.cells_one (saysT b)) (i := 2) rfl (by (simp; done)))) (fun _ _ _ => .inr rfl) ?_
      rintro _ _ ⟨rfl, rfl⟩
      refine RD.nil ?_
      refine ⟨b6, trivial, (LiveIs.cons rfl (LiveIs.cons rfl (LiveIs.cons rfl (LiveIs.cons rfl LiveIs.nil)))), (by exact Ent.pull_drop (is := [2, 2, 2]) rfl)⟩
     ·
      refine RD.E rfl rfl rfl rfl (e_str_bytes rfl Tryz.underlying9 Tryz.underlying57 Tryz.underlying5 rfl (by rw [List.length_drop, List.length_take]; omega)) (by rintro _ _ ⟨_, _, _, _, rfl, rfl⟩; exact .inl (Ent.nil _)) ?_
      rintro _ _ ⟨b24, cap24, hcl24, hcm24, rfl, rfl⟩
      refine RD.nil ?_
      refine RDT3.go ?_
      refine RD.known 19 rfl (show _ = slc b19 0 2 cap19 from congrArg (fun n => slc b19 0 n cap19) hl18) ?_
      refine RD.C [1] rfl rfl rfl rfl (c_call rfl rfl) (get_spec b19 2 cap19 5 (piece b 18 2) _ (by rw [piece, List.length_drop, List.length_take]; omega) (by decide)) rfl (by rintro _ _ ⟨rfl, rfl⟩; exact .inl (Ent.nil _)) ?_
      rintro _ _ ⟨rfl, rfl⟩
      refine RD.n rfl (p_conv_i64 rfl Tryz.underlying107 Tryz.underlying3 rfl (by omega)) ?_
      refine RD.known 24 rfl (show _ = slc b24 0 2 cap24 from congrArg (fun n => slc b24 0 n cap24) hl20) ?_
      refine RD.C [1] rfl rfl rfl rfl (c_call rfl rfl) (get_spec b24 2 cap24 5 (piece b 20 2) _ (by rw [piece, List.length_drop, List.length_take]; omega) (by decide)) rfl (by rintro _ _ ⟨rfl, rfl⟩; exact .inl (Ent.nil _)) ?_
      rintro _ _ ⟨rfl, rfl⟩
      refine RD.n rfl (p_conv_i64 rfl Tryz.underlying107 Tryz.underlying3 rfl (by omega)) ?_
      refine RD.n rfl (p_build rfl pl_49 ti_49 (by dsimp [layAll, lay]; rfl)) ?_
      refine RD.EN rfl rfl rfl (by exact (e_storeA rfl ts_49 rfl rfl rfl (VE.cells_one (saysT b)) (i := 2) rfl (by (simp; done)))) (fun _ _ _ => .inr rfl) ?_
      rintro _ _ ⟨rfl, rfl⟩
      refine RD.nil ?_
      refine ⟨b6, trivial, (LiveIs.cons rfl (LiveIs.cons rfl (LiveIs.cons rfl (LiveIs.cons rfl LiveIs.nil)))), (by exact Ent.pull_drop (is := [2, 2, 2]) rfl)⟩
    ·
     refine RD.E rfl rfl rfl rfl (e_str_bytes rfl Tryz.underlying9 Tryz.underlying57 Tryz.underlying5 rfl (by rw [List.length_drop, List.length_take]; omega)) (by rintro _ _ ⟨_, _, _, _, rfl, rfl⟩; exact .inl (Ent.nil _)) ?_
     rintro _ _ ⟨b24, cap24, hcl24, hcm24, rfl, rfl⟩
     refine RD.nil ?_
     refine RDT3.go ?_
     refine RD.E rfl rfl rfl rfl (e_str_bytes rfl Tryz.underlying9 Tryz.underlying57 Tryz.underlying5 rfl (by rw [List.length_drop, List.length_take]; omega)) (by rintro _ _ ⟨_, _, _, _, rfl, rfl⟩; exact .inl (Ent.nil _)) ?_
     rintro _ _ ⟨b19, cap19, hcl19, hcm19, rfl, rfl⟩
     refine RD.known 19 rfl (show _ = slc b19 0 2 cap19 from congrArg (fun n => slc b19 0 n cap19) hl18) ?_
     refine RD.C [0] rfl rfl rfl rfl (c_call rfl rfl) (get_spec b19 2 cap19 5 (piece b 18 2) _ (by rw [piece, List.length_drop, List.length_take]; omega) (by decide)) rfl (by rintro _ _ ⟨rfl, rfl⟩; exact .inl (Ent.nil _)) ?_
     rintro _ _ ⟨rfl, rfl⟩
     refine RD.n rfl (p_conv_i64 rfl Tryz.underlying107 Tryz.underlying3 rfl (by omega)) ?_
     refine RD.known 24 rfl (show _ = slc b24 0 2 cap24 from congrArg (fun n => slc b24 0 n cap24) hl20) ?_
     refine RD.C [1] rfl rfl rfl rfl (c_call rfl rfl) (get_spec b24 2 cap24 5 (piece b 20 2) _ (by rw [piece, List.length_drop, List.length_take]; omega) (by decide)) rfl (by rintro _ _ ⟨rfl, rfl⟩; exact .inl (Ent.nil _)) ?_
     rintro _ _ ⟨rfl, rfl⟩
     refine RD.n rfl (p_conv_i64 rfl Tryz.underlying107 Tryz.underlying3 rfl (by omega)) ?_
     refine RD.n rfl (p_build rfl pl_49 ti_49 (by dsimp [layAll, lay]; rfl)) ?_
     refine RD.EN rfl rfl rfl (by exact (e_storeA rfl ts_49 rfl rfl rfl (VE.cells_one (saysT b)) (i := 2) rfl (by (simp; done)))) (fun _ _ _ => .inr rfl) ?_
     rintro _ _ ⟨rfl, rfl⟩
     refine RD.nil ?_
     refine ⟨b6, trivial, (LiveIs.cons rfl (LiveIs.cons rfl (LiveIs.cons rfl (LiveIs.cons rfl LiveIs.nil)))), (by exact Ent.pull_drop (is := [2, 2, 2]) rfl)⟩
  ·
   rintro b6 e6 -
   refine T.seq fun K7 hK7 => ?_
   refine T.seq fun K8 hK8 => ?_
   refine T.region (l := [0, 1, 2, 3, 4, 5, 6, 7, 8, 9, 10, 11, 12, 13, 14, 15, 16, 17, 18, 19, 20, 21, 22, 23, 24, 25, 26, 27, 28]) rfl ?_
   refine RN.m rfl ?_
   refine RN.u rfl (by exact (q_loadA rfl ag_49 ts_49 rfl (i := 0) rfl (by exact Nat.le_refl _) rfl)) ?_
   refine RN.C [] rfl rfl rfl rfl (c_call rfl rfl) (laid_spec (saysT b) (by have := h0; show (piece b 2 _).length ≤ 16; rw [piece, List.length_drop, List.length_take]; omega) hp18 hp20) rfl ?_
   rintro _ _ ⟨rfl, rfl⟩
   refine RN.p rfl (p_sneq rfl rfl rfl) ?_
   refine RN.m rfl ?_
   refine RN.split_dec 32 rfl (fun h32 => ?_) (fun h32 => ?_)
   ·
    refine RN.no0 rfl ?_
    refine RN.no0 rfl ?_
    refine RN.no0 rfl ?_
    refine RN.no0 rfl ?_
    refine RN.pt rfl ?_
    refine RN.m rfl ?_
    refine RN.no0 rfl ?_
    refine RN.no0 rfl ?_
    refine RN.no0 rfl ?_
    refine RN.pt rfl ?_
    refine RN.m rfl ?_
    refine RN.no0 rfl ?_
    refine RN.no0 rfl ?_
    refine RN.no0 rfl ?_
    refine RN.pt rfl ?_
    refine RN.m rfl ?_
    refine RN.no0 rfl ?_
    refine RN.no0 rfl ?_
    refine RN.no0 rfl ?_
    refine RN.no0 rfl ?_
    refine RN.no0 rfl ?_
    refine RN.no0 rfl ?_
    refine RN.no0 rfl ?_
    refine RN.pt rfl ?_
    refine RN.nil ?_
    refine hK8 _ _ ?_
    refine T.cond_t rfl ?_
    refine T.seq fun K9 hK9 => ?_
    refine T.region (l := [0, 1]) rfl ?_
    refine RN.p rfl (p_build rfl pl_49 ti_49 (by dsimp [layAll, lay]; rfl)) ?_
    refine RN.EN rfl rfl rfl (by exact (e_storeA rfl ts_49 rfl rfl rfl (VE.cells_one VE.zero) (i := 1) rfl (by exact Nat.le_refl _))) ?_
    rintro _ _ ⟨rfl, rfl⟩
    refine RN.nil ?_
    refine hK9 _ _ ?_
    refine T.ret ?_
    refine Post.seq_r ?_
    refine bodyQ_ret [] (RetRun.cell rfl (load_cellV ag_49 ts_49 (i := 1) rfl (Nat.le_refl 3) rfl) RetRun.nil) ⟨by unfold rdE; rw [if_neg (fun h => h32 h.2.1)]; rfl, rfl⟩ (Ent.pull_drop (is := [2]) rfl)
   ·
    refine RN.p rfl (p_fieldAddr rfl fa_49_0 rfl) ?_
    refine RN.u rfl (by exact (q_load rfl sc_9 rfl (i := 0) rfl rfl)) ?_
    refine RN.C [] rfl rfl rfl rfl (c_call rfl rfl) (Good_A (piece b 2 (b.getD 1 0).toNat)) rfl ?_
    rintro _ _ ⟨rfl, rfl⟩
    refine RN.p rfl (by exact (p_not rfl rfl)) ?_
    refine RN.pf rfl ?_
    refine RN.m rfl ?_
    refine RN.split 38 rfl (fun h38 => ?_) (fun h38 => ?_)
    ·
     have hg : ¬ gb (piece b 2 (b.getD 1 0).toNat) = true := by simpa using h38
     refine RN.no0 rfl ?_
     refine RN.no0 rfl ?_
     refine RN.no0 rfl ?_
     refine RN.pt rfl ?_
     refine RN.m rfl ?_
     refine RN.no0 rfl ?_
     refine RN.no0 rfl ?_
     refine RN.no0 rfl ?_
     refine RN.pt rfl ?_
     refine RN.m rfl ?_
     refine RN.no0 rfl ?_
     refine RN.no0 rfl ?_
     refine RN.no0 rfl ?_
     refine RN.no0 rfl ?_
     refine RN.no0 rfl ?_
     refine RN.no0 rfl ?_
     refine RN.no0 rfl ?_
     refine RN.pt rfl ?_
     refine RN.nil ?_
     refine hK8 _ _ ?_
     refine T.cond_t rfl ?_
     refine T.seq fun K10 hK10 => ?_
     refine T.region (l := [0, 1]) rfl ?_
     refine RN.p rfl (p_build rfl pl_49 ti_49 (by dsimp [layAll, lay]; rfl)) ?_
     refine RN.EN rfl rfl rfl (by exact (e_storeA rfl ts_49 rfl rfl rfl (VE.cells_one VE.zero) (i := 1) rfl (by exact Nat.le_refl _))) ?_
     rintro _ _ ⟨rfl, rfl⟩
     refine RN.nil ?_
     refine hK10 _ _ ?_
     refine T.ret ?_
     refine Post.seq_r ?_
     refine bodyQ_ret [] (RetRun.cell rfl (load_cellV ag_49 ts_49 (i := 1) rfl (Nat.le_refl 3) rfl) RetRun.nil) ⟨by unfold rdE; rw [if_neg (fun h => hg h.2.2.1)]; rfl, rfl⟩ (Ent.pull_drop (is := [2]) rfl)
    ·
     have hg : gb (piece b 2 (b.getD 1 0).toNat) = true := by simpa using h38
     refine RN.p rfl (p_fieldAddr rfl fa_49_2 rfl) ?_
     refine RN.u rfl (by exact (q_load rfl sc_3 rfl (i := 0) rfl rfl)) ?_
     refine RN.p rfl (p_lss rfl rfl rfl) ?_
     refine RN.pf rfl ?_
     refine RN.m rfl ?_
     refine RN.split_dec 43 rfl (fun h43 => ?_) (fun h43 => ?_)
     ·
      refine RN.no0 rfl ?_
      refine RN.no0 rfl ?_
      refine RN.no0 rfl ?_
      refine RN.pt rfl ?_
      refine RN.m rfl ?_
      refine RN.no0 rfl ?_
      refine RN.no0 rfl ?_
      refine RN.no0 rfl ?_
      refine RN.no0 rfl ?_
      refine RN.no0 rfl ?_
      refine RN.no0 rfl ?_
      refine RN.no0 rfl ?_
      refine RN.pt rfl ?_
      refine RN.nil ?_
      refine hK8 _ _ ?_
      refine T.cond_t rfl ?_
      refine T.seq fun K11 hK11 => ?_
      refine T.region (l := [0, 1]) rfl ?_
      refine RN.p rfl (p_build rfl pl_49 ti_49 (by dsimp [layAll, lay]; rfl)) ?_
      refine RN.EN rfl rfl rfl (by exact (e_storeA rfl ts_49 rfl rfl rfl (VE.cells_one VE.zero) (i := 1) rfl (by exact Nat.le_refl _))) ?_
      rintro _ _ ⟨rfl, rfl⟩
      refine RN.nil ?_
      refine hK11 _ _ ?_
      refine T.ret ?_
      refine Post.seq_r ?_
      refine bodyQ_ret [] (RetRun.cell rfl (load_cellV ag_49 ts_49 (i := 1) rfl (Nat.le_refl 3) rfl) RetRun.nil) ⟨by unfold rdE; rw [if_neg (fun h => (by obtain ⟨_, g1, g2, g3⟩ := h.2.2; omega))]; rfl, rfl⟩ (Ent.pull_drop (is := [2]) rfl)
     ·
      refine RN.p rfl (p_fieldAddr rfl fa_49_1 rfl) ?_
      refine RN.u rfl (by exact (q_load rfl sc_3 rfl (i := 0) rfl rfl)) ?_
      refine RN.p rfl (p_lss rfl rfl rfl) ?_
      refine RN.pf rfl ?_
      refine RN.m rfl ?_
      refine RN.split_dec 48 rfl (fun h48 => ?_) (fun h48 => ?_)
      ·
       refine RN.no0 rfl ?_
       refine RN.no0 rfl ?_
       refine RN.no0 rfl ?_
       refine RN.no0 rfl ?_
       refine RN.no0 rfl ?_
       refine RN.no0 rfl ?_
       refine RN.no0 rfl ?_
       refine RN.pt rfl ?_
       refine RN.nil ?_
       refine hK8 _ _ ?_
       refine T.cond_t rfl ?_
       refine T.seq fun K12 hK12 => ?_
       refine T.region (l := [0, 1]) rfl ?_
       refine RN.p rfl (p_build rfl pl_49 ti_49 (by dsimp [layAll, lay]; rfl)) ?_
       refine RN.EN rfl rfl rfl (by exact (e_storeA rfl ts_49 rfl rfl rfl (VE.cells_one VE.zero) (i := 1) rfl (by exact Nat.le_refl _))) ?_
       rintro _ _ ⟨rfl, rfl⟩
       refine RN.nil ?_
       refine hK12 _ _ ?_
       refine T.ret ?_
       refine Post.seq_r ?_
       refine bodyQ_ret [] (RetRun.cell rfl (load_cellV ag_49 ts_49 (i := 1) rfl (Nat.le_refl 3) rfl) RetRun.nil) ⟨by unfold rdE; rw [if_neg (fun h => (by obtain ⟨_, g1, g2, g3⟩ := h.2.2; omega))]; rfl, rfl⟩ (Ent.pull_drop (is := [2]) rfl)
      ·
       refine RN.p rfl (p_fieldAddr rfl fa_49_1 rfl) ?_
       refine RN.u rfl (by exact (q_load rfl sc_3 rfl (i := 0) rfl rfl)) ?_
       refine RN.m rfl ?_
       refine RN.p rfl (p_fieldAddr rfl fa_49_2 rfl) ?_
       refine RN.u rfl (by exact (q_load rfl sc_3 rfl (i := 0) rfl rfl)) ?_
       refine RN.p rfl (by exact (p_sub rfl rfl rfl (by omega))) ?_
       refine RN.p rfl (p_gtr rfl rfl rfl) ?_
       refine RN.pf rfl ?_
       refine RN.nil ?_
       refine hK8 _ _ ?_
       refine T.cond_dec rfl (fun h56 => ?_) (fun h56 => ?_)
       ·
        refine T.seq fun K13 hK13 => ?_
        refine T.region (l := [0, 1]) rfl ?_
        refine RN.p rfl (p_build rfl pl_49 ti_49 (by dsimp [layAll, lay]; rfl)) ?_
        refine RN.EN rfl rfl rfl (by exact (e_storeA rfl ts_49 rfl rfl rfl (VE.cells_one VE.zero) (i := 1) rfl (by exact Nat.le_refl _))) ?_
        rintro _ _ ⟨rfl, rfl⟩
        refine RN.nil ?_
        refine hK13 _ _ ?_
        refine T.ret ?_
        refine Post.seq_r ?_
        refine bodyQ_ret [] (RetRun.cell rfl (load_cellV ag_49 ts_49 (i := 1) rfl (Nat.le_refl 3) rfl) RetRun.nil) ⟨by unfold rdE; rw [if_neg (fun h => (by obtain ⟨_, g1, g2, g3⟩ := h.2.2; omega))]; rfl, rfl⟩ (Ent.pull_drop (is := [2]) rfl)
       ·
        refine T.skip ?_
        refine hK7 _ _ ?_
        refine T.seq fun K14 hK14 => ?_
        refine T.region (l := [0, 1]) rfl ?_
        refine RN.u rfl (by exact (q_loadA rfl ag_49 ts_49 rfl (i := 0) rfl (by exact Nat.le_refl _) rfl)) ?_
        refine RN.EN rfl rfl rfl (by exact (e_storeA rfl ts_49 rfl rfl rfl (VE.cells_one (saysT b)) (i := 1) rfl (by exact Nat.le_refl _))) ?_
        rintro _ _ ⟨rfl, rfl⟩
        refine RN.nil ?_
        refine hK14 _ _ ?_
        refine T.ret ?_
        refine bodyQ_ret [] (RetRun.cell rfl (load_cellV (vs := (saysT b).cells) ag_49 ts_49 (i := 1) rfl (Nat.le_refl 3) rfl) RetRun.nil) ⟨by unfold rdE; rw [if_pos ⟨h0, Classical.not_not.1 h32, hg, by omega, by omega, by omega⟩]; rfl, rfl⟩ (Ent.pull_drop (is := [2]) rfl)

end Go.Proofs.YtbbgajjonodlfaaGreat
