/-
  Walks of the reference of model.
-/
import Derived.Test.YticfabhcfdmbjaaYtM7
namespace Go.Proofs.Yticfabhcfdmbjaa
open Go Go.Sl Go.Proofs
set_option maxRecDepth 20000
open Go.Mo
theorem RDiffers_spec (x y : List UInt8) (hx : x.length ≤ 1048576) (hy : y.length ≤ 1048576) : Ctr Try.prog 22 [strV x, strV y] [] (fun v Ps => v.oneCell' = true ∧ Ps = [vec 3 1 v (difS x y (max (x.length / 32) (y.length / 32))).length ((difS x y (max (x.length / 32) (y.length / 32))).map intV)]) := by
  refine Ctr.of_body Try.func22 rfl (by kernel_rfl) Try.ntmps22 rfl rfl (fun Fr => ?_)
  refine T.seq fun K1 hK1 => ?_
  refine T.region (l := [0]) rfl ?_
  refine RN.qq rfl rfl rfl rfl (PRun.q (p_assign rfl (by conv => lhs; whnf))) ?_
  refine RN.nil ?_
  refine hK1 _ _ ?_
  refine T.seq fun K2 hK2 => ?_
  refine T.region (l := [0, 1]) rfl ?_
  refine RN.E rfl rfl rfl rfl (by first | exact (e_makeSliceN (n := 0) (c := 0) rfl Try.underlying40 ti_3 rfl rfl rfl (by omega)) | exact (e_makeSlice rfl Try.underlying40 ti_3 rfl rfl rfl (by omega))) ?_
  rintro _ _ ⟨b7, rfl, rfl⟩
  refine RN.ent (Ent.cons (vec_of_row (n := 0) (cap := 0) (sz := 1) (xs := []) (rest := zeros 0 [.int .i64 0]) (by simp) (Nat.le_refl _) (by omega) (by simp [zeros])) (Ent.refl _)) ?_
  refine RN.qq rfl rfl rfl rfl (PRun.q (p_assign rfl (by conv => lhs; whnf))) ?_
  refine RN.nil ?_
  refine hK2 _ _ ?_
  refine T.seq fun K3 hK3 => ?_
  refine T.seq fun K4 hK4 => ?_
  refine T.region (l := [0]) rfl ?_
  refine RN.qq rfl rfl rfl rfl (PRun.q (p_assign rfl (by conv => lhs; whnf))) ?_
  refine RN.nil ?_
  refine hK4 _ _ ?_
  refine T.block ?_
  have hdl := difS_length x y
  refine T.loop (G := Nat × Value) (fun ⟨k, v⟩ => k ≤ max (x.length / 32) (y.length / 32) ∧ v.oneCell' = true) (fun ⟨k, v⟩ => [(0, strV x), (1, strV y), (5, v), (6, intV k)]) (fun ⟨k, v⟩ => [vec 3 1 v (difS x y k).length ((difS x y k).map intV), Fr]) (fun ⟨k, v⟩ => max (x.length / 32) (y.length / 32) - k) (0, slc b7 0 0 0) ⟨by omega, rfl⟩ (LiveIs.cons rfl (LiveIs.cons rfl (LiveIs.cons rfl (LiveIs.cons rfl LiveIs.nil)))) (Ent.refl _) ?_
  rintro ⟨k, v⟩ e5 ⟨hk, hv⟩
  dsimp only
  have hdk := hdl k
  refine T.seq fun K6 hK6 => ?_
  refine T.seq fun K7 hK7 => ?_
  refine T.region (l := [0, 1, 2, 3, 4, 5, 6, 7, 8, 9]) rfl ?_
  refine RN.qq rfl rfl rfl rfl (PRun.q (p_move rfl (by conv => lhs; whnf))) ?_
  refine RN.qq rfl rfl rfl rfl (PRun.q (p_move rfl (by conv => lhs; whnf))) ?_
  refine RN.C [] rfl rfl rfl rfl (c_call rfl rfl) (Cap_spec x (by omega)) rfl ?_
  rintro _ _ ⟨rfl, rfl⟩
  refine RN.qq rfl rfl rfl rfl (PRun.q (p_lss rfl rfl rfl)) ?_
  refine RN.qq rfl rfl rfl rfl (PRun.q (p_move rfl (by conv => lhs; whnf))) ?_
  first | refine RN.split_dec 12 rfl (fun h12 => ?_) (fun h12 => ?_) | refine RN.split 12 rfl (fun h12 => ?_) (fun h12 => ?_)
  ·
    
    refine RN.O rfl rfl rfl rfl ?_
    refine RN.O rfl rfl rfl rfl ?_
    refine RN.O rfl rfl rfl rfl ?_
    refine RN.O rfl rfl rfl rfl ?_
    refine RN.qq rfl rfl rfl rfl (PRun.q (p_pick_t rfl rfl (by conv => lhs; whnf))) ?_
    refine RN.nil ?_
    refine hK7 _ _ ?_
    refine T.cond_t rfl ?_
    refine T.skip ?_
    refine hK6 _ _ ?_
    refine T.seq fun K8 hK8 => ?_
    refine T.block ?_
    refine T.seq fun K9 hK9 => ?_
    refine T.regionD (z := 7) (Bs := []) (l := [(0, .pure), (1, .pure), (2, .eff), (3, .pure), (4, .pure), (5, .pure), (6, .pure), (7, .eff), (8, .pure), (9, .pure), (10, .pure), (11, .pure), (12, .pure), (13, .pure), (14, .pure), (15, .pure), (16, .pure), (17, .pure), (18, .pure), (19, .pure), (20, .pure), (21, .pure), (22, .pure), (23, .pure), (24, .pure), (25, .pure), (26, .pure)]) mixed (by kernel_rfl) (Ent.nil _) ?_
    refine RD.pp rfl rfl rfl rfl (p_move rfl (by conv => lhs; whnf)) ?_
    refine RD.pp rfl rfl rfl rfl (p_move rfl (by conv => lhs; whnf)) ?_
    refine RD.C [] rfl rfl rfl rfl (c_call rfl rfl) (Cap_spec x (by omega)) rfl (by rintro _ _ ⟨rfl, rfl⟩; exact .inl (Ent.nil _)) ?_
    rintro _ _ ⟨rfl, rfl⟩
    refine RD.pp rfl rfl rfl rfl (p_geq rfl rfl rfl) ?_
    refine RD.pp rfl rfl rfl rfl (p_move rfl (by conv => lhs; whnf)) ?_
    first | refine RD.split_dec 24 rfl (fun h24 => ?_) (fun h24 => ?_) | refine RD.split 24 rfl (fun h24 => ?_) (fun h24 => ?_)
    ·
      refine RD.OP rfl rfl rfl rfl ?_
      refine RD.OP rfl rfl rfl rfl ?_
      refine RD.OE rfl rfl rfl rfl (.inr rfl) ?_
      refine RD.OP rfl rfl rfl rfl ?_
      refine RD.pp rfl rfl rfl rfl (p_pick_t rfl rfl (by conv => lhs; whnf)) ?_
      refine RD.pp rfl rfl rfl rfl (p_move rfl (by conv => lhs; whnf)) ?_
      refine RD.OP rfl rfl rfl rfl ?_
      refine RD.OP rfl rfl rfl rfl ?_
      refine RD.OP rfl rfl rfl rfl ?_
      refine RD.OP rfl rfl rfl rfl ?_
      refine RD.OP rfl rfl rfl rfl ?_
      refine RD.OP rfl rfl rfl rfl ?_
      refine RD.OP rfl rfl rfl rfl ?_
      refine RD.OP rfl rfl rfl rfl ?_
      refine RD.OP rfl rfl rfl rfl ?_
      refine RD.OP rfl rfl rfl rfl ?_
      refine RD.OP rfl rfl rfl rfl ?_
      refine RD.OP rfl rfl rfl rfl ?_
      refine RD.OP rfl rfl rfl rfl ?_
      refine RD.OP rfl rfl rfl rfl ?_
      refine RD.OP rfl rfl rfl rfl ?_
      refine RD.pp rfl rfl rfl rfl (p_pick_t rfl rfl (by conv => lhs; whnf)) ?_
      refine RD.nil ?_
      refine hK9 _ _ ?_
      refine T.cond_t rfl ?_
      refine T.region (l := [0, 1, 2, 3, 4]) rfl ?_
      refine RN.qq rfl rfl rfl rfl (PRun.q (p_move rfl (by conv => lhs; whnf))) ?_
      refine RN.qq rfl rfl rfl rfl (PRun.q (p_move rfl (by conv => lhs; whnf))) ?_
      refine RN.E rfl rfl rfl rfl (e_buildSlice1 rfl Try.underlying40 ti_3 rfl (by conv => lhs; whnf) rfl) ?_
      rintro _ _ ⟨b49, rfl, rfl⟩
      refine RN.E rfl rfl rfl rfl (e_append rfl Try.underlying40 ni_40 ti_3 rfl rfl (i := 1) rfl (src_full (i := 0) rfl rfl) (by first | exact one_one rfl | simp [Value.oneCell']) (by omega)) ?_
      rintro v50 _ ⟨hv50, rfl⟩
      refine RN.qq rfl rfl rfl rfl (PRun.q (p_assign rfl (by conv => lhs; whnf))) ?_
      refine RN.nil ?_
      refine hK8 _ _ ?_
      refine T.region (l := [0, 1, 2]) rfl ?_
      refine RN.qq rfl rfl rfl rfl (PRun.q (p_move rfl (by conv => lhs; whnf))) ?_
      refine RN.qq rfl rfl rfl rfl (PRun.q (by first | exact (p_addN (b := 1) rfl rfl rfl (by omega)) | exact (p_add rfl rfl rfl (by omega)))) ?_
      refine RN.qq rfl rfl rfl rfl (PRun.q (p_assign rfl (by conv => lhs; whnf))) ?_
      refine RN.nil ?_
      refine ⟨(k + 1, v50), ⟨by omega, hv50⟩, (by simp; omega), (LiveIs.cons rfl (LiveIs.cons rfl (LiveIs.cons rfl (LiveIs.cons rfl LiveIs.nil)))), ?_⟩
      have hc : x.length / 32 ≤ k ∨ y.length / 32 ≤ k ∨ (x.take ((k + 1) * 32)).drop (k * 32) ≠ (y.take ((k + 1) * 32)).drop (k * 32) := by
        first
        | (left; omega)
        | (right; left; omega)
        | (right; right; exact h46)
      have e1 : difS x y (k + 1) = difS x y k ++ [k] := by rw [difS, if_pos hc]
      show Ent _ (sep [vec 3 1 v50 (difS x y (k + 1)).length ((difS x y (k + 1)).map intV), Fr])
      rw [e1, List.length_append, List.map_append]
      exact Ent.pull_drop (is := [1, 1]) rfl
    ·
      refine RD.pp rfl rfl rfl rfl (p_move rfl (by conv => lhs; whnf)) ?_
      refine RD.pp rfl rfl rfl rfl (p_move rfl (by conv => lhs; whnf)) ?_
      refine RD.C [] rfl rfl rfl rfl (c_call rfl rfl) (Cap_spec y (by omega)) rfl (fun _ _ _ => .inr rfl) ?_
      rintro _ _ ⟨rfl, rfl⟩
      refine RD.pp rfl rfl rfl rfl (p_geq rfl rfl rfl) ?_
      refine RD.pp rfl rfl rfl rfl (p_pick_f rfl rfl (by conv => lhs; whnf)) ?_
      refine RD.pp rfl rfl rfl rfl (p_move rfl (by conv => lhs; whnf)) ?_
      first | refine RD.split_dec 30 rfl (fun h30 => ?_) (fun h30 => ?_) | refine RD.split 30 rfl (fun h30 => ?_) (fun h30 => ?_)
      ·
        refine RD.OP rfl rfl rfl rfl ?_
        refine RD.OP rfl rfl rfl rfl ?_
        refine RD.OP rfl rfl rfl rfl ?_
        refine RD.OP rfl rfl rfl rfl ?_
        refine RD.OP rfl rfl rfl rfl ?_
        refine RD.OP rfl rfl rfl rfl ?_
        refine RD.OP rfl rfl rfl rfl ?_
        refine RD.OP rfl rfl rfl rfl ?_
        refine RD.OP rfl rfl rfl rfl ?_
        refine RD.OP rfl rfl rfl rfl ?_
        refine RD.OP rfl rfl rfl rfl ?_
        refine RD.OP rfl rfl rfl rfl ?_
        refine RD.OP rfl rfl rfl rfl ?_
        refine RD.OP rfl rfl rfl rfl ?_
        refine RD.OP rfl rfl rfl rfl ?_
        refine RD.pp rfl rfl rfl rfl (p_pick_t rfl rfl (by conv => lhs; whnf)) ?_
        refine RD.nil ?_
        refine hK9 _ _ ?_
        refine T.cond_t rfl ?_
        refine T.region (l := [0, 1, 2, 3, 4]) rfl ?_
        refine RN.qq rfl rfl rfl rfl (PRun.q (p_move rfl (by conv => lhs; whnf))) ?_
        refine RN.qq rfl rfl rfl rfl (PRun.q (p_move rfl (by conv => lhs; whnf))) ?_
        refine RN.E rfl rfl rfl rfl (e_buildSlice1 rfl Try.underlying40 ti_3 rfl (by conv => lhs; whnf) rfl) ?_
        rintro _ _ ⟨b49, rfl, rfl⟩
        refine RN.E rfl rfl rfl rfl (e_append rfl Try.underlying40 ni_40 ti_3 rfl rfl (i := 1) rfl (src_full (i := 0) rfl rfl) (by first | exact one_one rfl | simp [Value.oneCell']) (by omega)) ?_
        rintro v50 _ ⟨hv50, rfl⟩
        refine RN.qq rfl rfl rfl rfl (PRun.q (p_assign rfl (by conv => lhs; whnf))) ?_
        refine RN.nil ?_
        refine hK8 _ _ ?_
        refine T.region (l := [0, 1, 2]) rfl ?_
        refine RN.qq rfl rfl rfl rfl (PRun.q (p_move rfl (by conv => lhs; whnf))) ?_
        refine RN.qq rfl rfl rfl rfl (PRun.q (by first | exact (p_addN (b := 1) rfl rfl rfl (by omega)) | exact (p_add rfl rfl rfl (by omega)))) ?_
        refine RN.qq rfl rfl rfl rfl (PRun.q (p_assign rfl (by conv => lhs; whnf))) ?_
        refine RN.nil ?_
        refine ⟨(k + 1, v50), ⟨by omega, hv50⟩, (by simp; omega), (LiveIs.cons rfl (LiveIs.cons rfl (LiveIs.cons rfl (LiveIs.cons rfl LiveIs.nil)))), ?_⟩
        have hc : x.length / 32 ≤ k ∨ y.length / 32 ≤ k ∨ (x.take ((k + 1) * 32)).drop (k * 32) ≠ (y.take ((k + 1) * 32)).drop (k * 32) := by
          first
          | (left; omega)
          | (right; left; omega)
          | (right; right; exact h46)
        have e1 : difS x y (k + 1) = difS x y k ++ [k] := by rw [difS, if_pos hc]
        show Ent _ (sep [vec 3 1 v50 (difS x y (k + 1)).length ((difS x y (k + 1)).map intV), Fr])
        rw [e1, List.length_append, List.map_append]
        exact Ent.pull_drop (is := [1, 1]) rfl
      ·
        have hk1 : k < x.length / 32 := by omega
        have hk2 : k < y.length / 32 := by omega
        refine RD.pp rfl rfl rfl rfl (p_move rfl (by conv => lhs; whnf)) ?_
        refine RD.pp rfl rfl rfl rfl (p_move rfl (by conv => lhs; whnf)) ?_
        refine RD.pp rfl rfl rfl rfl (by first | exact (p_mulN (b := 32) rfl rfl rfl (by omega)) | exact (p_mul rfl rfl rfl (by omega))) ?_
        refine RD.pp rfl rfl rfl rfl (p_move rfl (by conv => lhs; whnf)) ?_
        refine RD.pp rfl rfl rfl rfl (by first | exact (p_addN (b := 1) rfl rfl rfl (by omega)) | exact (p_add rfl rfl rfl (by omega))) ?_
        refine RD.pp rfl rfl rfl rfl (by first | exact (p_mulN (b := 32) rfl rfl rfl (by omega)) | exact (p_mul rfl rfl rfl (by omega))) ?_
        refine RD.pp rfl rfl rfl rfl (by first | exact (p_sliceN_s rfl Try.underlying9 rfl rfl rfl (by omega)) | exact (p_slice_s rfl Try.underlying9 rfl rfl rfl (by omega))) ?_
        refine RD.pp rfl rfl rfl rfl (p_move rfl (by conv => lhs; whnf)) ?_
        refine RD.pp rfl rfl rfl rfl (p_move rfl (by conv => lhs; whnf)) ?_
        refine RD.pp rfl rfl rfl rfl (by first | exact (p_mulN (b := 32) rfl rfl rfl (by omega)) | exact (p_mul rfl rfl rfl (by omega))) ?_
        refine RD.pp rfl rfl rfl rfl (p_move rfl (by conv => lhs; whnf)) ?_
        refine RD.pp rfl rfl rfl rfl (by first | exact (p_addN (b := 1) rfl rfl rfl (by omega)) | exact (p_add rfl rfl rfl (by omega))) ?_
        refine RD.pp rfl rfl rfl rfl (by first | exact (p_mulN (b := 32) rfl rfl rfl (by omega)) | exact (p_mul rfl rfl rfl (by omega))) ?_
        refine RD.pp rfl rfl rfl rfl (by first | exact (p_sliceN_s rfl Try.underlying9 rfl rfl rfl (by omega)) | exact (p_slice_s rfl Try.underlying9 rfl rfl rfl (by omega))) ?_
        refine RD.pp rfl rfl rfl rfl (p_sneq rfl rfl rfl) ?_
        refine RD.pp rfl rfl rfl rfl (p_pick_f rfl rfl (by conv => lhs; whnf)) ?_
        refine RD.nil ?_
        refine hK9 _ _ ?_
        first | refine T.cond_dec rfl (fun h46 => ?_) (fun h46 => ?_) | refine T.cond rfl (fun h46 => ?_) (fun h46 => ?_)
        ·
          refine T.region (l := [0, 1, 2, 3, 4]) rfl ?_
          refine RN.qq rfl rfl rfl rfl (PRun.q (p_move rfl (by conv => lhs; whnf))) ?_
          refine RN.qq rfl rfl rfl rfl (PRun.q (p_move rfl (by conv => lhs; whnf))) ?_
          refine RN.E rfl rfl rfl rfl (e_buildSlice1 rfl Try.underlying40 ti_3 rfl (by conv => lhs; whnf) rfl) ?_
          rintro _ _ ⟨b49, rfl, rfl⟩
          refine RN.E rfl rfl rfl rfl (e_append rfl Try.underlying40 ni_40 ti_3 rfl rfl (i := 1) rfl (src_full (i := 0) rfl rfl) (by first | exact one_one rfl | simp [Value.oneCell']) (by omega)) ?_
          rintro v50 _ ⟨hv50, rfl⟩
          refine RN.qq rfl rfl rfl rfl (PRun.q (p_assign rfl (by conv => lhs; whnf))) ?_
          refine RN.nil ?_
          refine hK8 _ _ ?_
          refine T.region (l := [0, 1, 2]) rfl ?_
          refine RN.qq rfl rfl rfl rfl (PRun.q (p_move rfl (by conv => lhs; whnf))) ?_
          refine RN.qq rfl rfl rfl rfl (PRun.q (by first | exact (p_addN (b := 1) rfl rfl rfl (by omega)) | exact (p_add rfl rfl rfl (by omega)))) ?_
          refine RN.qq rfl rfl rfl rfl (PRun.q (p_assign rfl (by conv => lhs; whnf))) ?_
          refine RN.nil ?_
          refine ⟨(k + 1, v50), ⟨by omega, hv50⟩, (by simp; omega), (LiveIs.cons rfl (LiveIs.cons rfl (LiveIs.cons rfl (LiveIs.cons rfl LiveIs.nil)))), ?_⟩
          have hc : x.length / 32 ≤ k ∨ y.length / 32 ≤ k ∨ (x.take ((k + 1) * 32)).drop (k * 32) ≠ (y.take ((k + 1) * 32)).drop (k * 32) := by
            first
            | (left; omega)
            | (right; left; omega)
            | (right; right; exact h46)
          have e1 : difS x y (k + 1) = difS x y k ++ [k] := by rw [difS, if_pos hc]
          show Ent _ (sep [vec 3 1 v50 (difS x y (k + 1)).length ((difS x y (k + 1)).map intV), Fr])
          rw [e1, List.length_append, List.map_append]
          exact Ent.pull_drop (is := [1, 1]) rfl
        ·
          refine T.skip ?_
          refine hK8 _ _ ?_
          refine T.region (l := [0, 1, 2]) rfl ?_
          refine RN.qq rfl rfl rfl rfl (PRun.q (p_move rfl (by conv => lhs; whnf))) ?_
          refine RN.qq rfl rfl rfl rfl (PRun.q (by first | exact (p_addN (b := 1) rfl rfl rfl (by omega)) | exact (p_add rfl rfl rfl (by omega)))) ?_
          refine RN.qq rfl rfl rfl rfl (PRun.q (p_assign rfl (by conv => lhs; whnf))) ?_
          refine RN.nil ?_
          refine ⟨(k + 1, v), ⟨by omega, hv⟩, (by simp; omega), (LiveIs.cons rfl (LiveIs.cons rfl (LiveIs.cons rfl (LiveIs.cons rfl LiveIs.nil)))), ?_⟩
          have hn : ¬ (x.length / 32 ≤ k ∨ y.length / 32 ≤ k ∨ (x.take ((k + 1) * 32)).drop (k * 32) ≠ (y.take ((k + 1) * 32)).drop (k * 32)) := by
            intro h
            rcases h with h | h | h
            · omega
            · omega
            · exact h46 h
          have e1 : difS x y (k + 1) = difS x y k := by rw [difS, if_neg hn]
          show Ent _ (sep [vec 3 1 v (difS x y (k + 1)).length ((difS x y (k + 1)).map intV), Fr])
          rw [e1]
          exact Ent.refl _
  ·
    refine RN.qq rfl rfl rfl rfl (PRun.q (p_move rfl (by conv => lhs; whnf))) ?_
    refine RN.qq rfl rfl rfl rfl (PRun.q (p_move rfl (by conv => lhs; whnf))) ?_
    refine RN.C [] rfl rfl rfl rfl (c_call rfl rfl) (Cap_spec y (by omega)) rfl ?_
    rintro _ _ ⟨rfl, rfl⟩
    refine RN.qq rfl rfl rfl rfl (PRun.q (p_lss rfl rfl rfl)) ?_
    refine RN.qq rfl rfl rfl rfl (PRun.q (p_pick_f rfl rfl (by conv => lhs; whnf))) ?_
    refine RN.nil ?_
    refine hK7 _ _ ?_
    first | refine T.cond_dec rfl (fun h17 => ?_) (fun h17 => ?_) | refine T.cond rfl (fun h17 => ?_) (fun h17 => ?_)
    ·
      refine T.skip ?_
      refine hK6 _ _ ?_
      refine T.seq fun K10 hK10 => ?_
      refine T.block ?_
      refine T.seq fun K11 hK11 => ?_
      refine T.regionD (z := 7) (Bs := []) (l := [(0, .pure), (1, .pure), (2, .eff), (3, .pure), (4, .pure), (5, .pure), (6, .pure), (7, .eff), (8, .pure), (9, .pure), (10, .pure), (11, .pure), (12, .pure), (13, .pure), (14, .pure), (15, .pure), (16, .pure), (17, .pure), (18, .pure), (19, .pure), (20, .pure), (21, .pure), (22, .pure), (23, .pure), (24, .pure), (25, .pure), (26, .pure)]) mixed (by kernel_rfl) (Ent.nil _) ?_
      refine RD.pp rfl rfl rfl rfl (p_move rfl (by conv => lhs; whnf)) ?_
      refine RD.pp rfl rfl rfl rfl (p_move rfl (by conv => lhs; whnf)) ?_
      refine RD.C [] rfl rfl rfl rfl (c_call rfl rfl) (Cap_spec x (by omega)) rfl (by rintro _ _ ⟨rfl, rfl⟩; exact .inl (Ent.nil _)) ?_
      rintro _ _ ⟨rfl, rfl⟩
      refine RD.pp rfl rfl rfl rfl (p_geq rfl rfl rfl) ?_
      refine RD.pp rfl rfl rfl rfl (p_move rfl (by conv => lhs; whnf)) ?_
      first | refine RD.split_dec 24 rfl (fun h24 => ?_) (fun h24 => ?_) | refine RD.split 24 rfl (fun h24 => ?_) (fun h24 => ?_)
      ·
        refine RD.OP rfl rfl rfl rfl ?_
        refine RD.OP rfl rfl rfl rfl ?_
        refine RD.OE rfl rfl rfl rfl (.inr rfl) ?_
        refine RD.OP rfl rfl rfl rfl ?_
        refine RD.pp rfl rfl rfl rfl (p_pick_t rfl rfl (by conv => lhs; whnf)) ?_
        refine RD.pp rfl rfl rfl rfl (p_move rfl (by conv => lhs; whnf)) ?_
        refine RD.OP rfl rfl rfl rfl ?_
        refine RD.OP rfl rfl rfl rfl ?_
        refine RD.OP rfl rfl rfl rfl ?_
        refine RD.OP rfl rfl rfl rfl ?_
        refine RD.OP rfl rfl rfl rfl ?_
        refine RD.OP rfl rfl rfl rfl ?_
        refine RD.OP rfl rfl rfl rfl ?_
        refine RD.OP rfl rfl rfl rfl ?_
        refine RD.OP rfl rfl rfl rfl ?_
        refine RD.OP rfl rfl rfl rfl ?_
        refine RD.OP rfl rfl rfl rfl ?_
        refine RD.OP rfl rfl rfl rfl ?_
        refine RD.OP rfl rfl rfl rfl ?_
        refine RD.OP rfl rfl rfl rfl ?_
        refine RD.OP rfl rfl rfl rfl ?_
        refine RD.pp rfl rfl rfl rfl (p_pick_t rfl rfl (by conv => lhs; whnf)) ?_
        refine RD.nil ?_
        refine hK11 _ _ ?_
        refine T.cond_t rfl ?_
        refine T.region (l := [0, 1, 2, 3, 4]) rfl ?_
        refine RN.qq rfl rfl rfl rfl (PRun.q (p_move rfl (by conv => lhs; whnf))) ?_
        refine RN.qq rfl rfl rfl rfl (PRun.q (p_move rfl (by conv => lhs; whnf))) ?_
        refine RN.E rfl rfl rfl rfl (e_buildSlice1 rfl Try.underlying40 ti_3 rfl (by conv => lhs; whnf) rfl) ?_
        rintro _ _ ⟨b49, rfl, rfl⟩
        refine RN.E rfl rfl rfl rfl (e_append rfl Try.underlying40 ni_40 ti_3 rfl rfl (i := 1) rfl (src_full (i := 0) rfl rfl) (by first | exact one_one rfl | simp [Value.oneCell']) (by omega)) ?_
        rintro v50 _ ⟨hv50, rfl⟩
        refine RN.qq rfl rfl rfl rfl (PRun.q (p_assign rfl (by conv => lhs; whnf))) ?_
        refine RN.nil ?_
        refine hK10 _ _ ?_
        refine T.region (l := [0, 1, 2]) rfl ?_
        refine RN.qq rfl rfl rfl rfl (PRun.q (p_move rfl (by conv => lhs; whnf))) ?_
        refine RN.qq rfl rfl rfl rfl (PRun.q (by first | exact (p_addN (b := 1) rfl rfl rfl (by omega)) | exact (p_add rfl rfl rfl (by omega)))) ?_
        refine RN.qq rfl rfl rfl rfl (PRun.q (p_assign rfl (by conv => lhs; whnf))) ?_
        refine RN.nil ?_
        refine ⟨(k + 1, v50), ⟨by omega, hv50⟩, (by simp; omega), (LiveIs.cons rfl (LiveIs.cons rfl (LiveIs.cons rfl (LiveIs.cons rfl LiveIs.nil)))), ?_⟩
        have hc : x.length / 32 ≤ k ∨ y.length / 32 ≤ k ∨ (x.take ((k + 1) * 32)).drop (k * 32) ≠ (y.take ((k + 1) * 32)).drop (k * 32) := by
          first
          | (left; omega)
          | (right; left; omega)
          | (right; right; exact h46)
        have e1 : difS x y (k + 1) = difS x y k ++ [k] := by rw [difS, if_pos hc]
        show Ent _ (sep [vec 3 1 v50 (difS x y (k + 1)).length ((difS x y (k + 1)).map intV), Fr])
        rw [e1, List.length_append, List.map_append]
        exact Ent.pull_drop (is := [1, 1]) rfl
      ·
        refine RD.pp rfl rfl rfl rfl (p_move rfl (by conv => lhs; whnf)) ?_
        refine RD.pp rfl rfl rfl rfl (p_move rfl (by conv => lhs; whnf)) ?_
        refine RD.C [] rfl rfl rfl rfl (c_call rfl rfl) (Cap_spec y (by omega)) rfl (fun _ _ _ => .inr rfl) ?_
        rintro _ _ ⟨rfl, rfl⟩
        refine RD.pp rfl rfl rfl rfl (p_geq rfl rfl rfl) ?_
        refine RD.pp rfl rfl rfl rfl (p_pick_f rfl rfl (by conv => lhs; whnf)) ?_
        refine RD.pp rfl rfl rfl rfl (p_move rfl (by conv => lhs; whnf)) ?_
        first | refine RD.split_dec 30 rfl (fun h30 => ?_) (fun h30 => ?_) | refine RD.split 30 rfl (fun h30 => ?_) (fun h30 => ?_)
        ·
          refine RD.OP rfl rfl rfl rfl ?_
          refine RD.OP rfl rfl rfl rfl ?_
          refine RD.OP rfl rfl rfl rfl ?_
          refine RD.OP rfl rfl rfl rfl ?_
          refine RD.OP rfl rfl rfl rfl ?_
          refine RD.OP rfl rfl rfl rfl ?_
          refine RD.OP rfl rfl rfl rfl ?_
          refine RD.OP rfl rfl rfl rfl ?_
          refine RD.OP rfl rfl rfl rfl ?_
          refine RD.OP rfl rfl rfl rfl ?_
          refine RD.OP rfl rfl rfl rfl ?_
          refine RD.OP rfl rfl rfl rfl ?_
          refine RD.OP rfl rfl rfl rfl ?_
          refine RD.OP rfl rfl rfl rfl ?_
          refine RD.OP rfl rfl rfl rfl ?_
          refine RD.pp rfl rfl rfl rfl (p_pick_t rfl rfl (by conv => lhs; whnf)) ?_
          refine RD.nil ?_
          refine hK11 _ _ ?_
          refine T.cond_t rfl ?_
          refine T.region (l := [0, 1, 2, 3, 4]) rfl ?_
          refine RN.qq rfl rfl rfl rfl (PRun.q (p_move rfl (by conv => lhs; whnf))) ?_
          refine RN.qq rfl rfl rfl rfl (PRun.q (p_move rfl (by conv => lhs; whnf))) ?_
          refine RN.E rfl rfl rfl rfl (e_buildSlice1 rfl Try.underlying40 ti_3 rfl (by conv => lhs; whnf) rfl) ?_
          rintro _ _ ⟨b49, rfl, rfl⟩
          refine RN.E rfl rfl rfl rfl (e_append rfl Try.underlying40 ni_40 ti_3 rfl rfl (i := 1) rfl (src_full (i := 0) rfl rfl) (by first | exact one_one rfl | simp [Value.oneCell']) (by omega)) ?_
          rintro v50 _ ⟨hv50, rfl⟩
          refine RN.qq rfl rfl rfl rfl (PRun.q (p_assign rfl (by conv => lhs; whnf))) ?_
          refine RN.nil ?_
          refine hK10 _ _ ?_
          refine T.region (l := [0, 1, 2]) rfl ?_
          refine RN.qq rfl rfl rfl rfl (PRun.q (p_move rfl (by conv => lhs; whnf))) ?_
          refine RN.qq rfl rfl rfl rfl (PRun.q (by first | exact (p_addN (b := 1) rfl rfl rfl (by omega)) | exact (p_add rfl rfl rfl (by omega)))) ?_
          refine RN.qq rfl rfl rfl rfl (PRun.q (p_assign rfl (by conv => lhs; whnf))) ?_
          refine RN.nil ?_
          refine ⟨(k + 1, v50), ⟨by omega, hv50⟩, (by simp; omega), (LiveIs.cons rfl (LiveIs.cons rfl (LiveIs.cons rfl (LiveIs.cons rfl LiveIs.nil)))), ?_⟩
          have hc : x.length / 32 ≤ k ∨ y.length / 32 ≤ k ∨ (x.take ((k + 1) * 32)).drop (k * 32) ≠ (y.take ((k + 1) * 32)).drop (k * 32) := by
            first
            | (left; omega)
            | (right; left; omega)
            | (right; right; exact h46)
          have e1 : difS x y (k + 1) = difS x y k ++ [k] := by rw [difS, if_pos hc]
          show Ent _ (sep [vec 3 1 v50 (difS x y (k + 1)).length ((difS x y (k + 1)).map intV), Fr])
          rw [e1, List.length_append, List.map_append]
          exact Ent.pull_drop (is := [1, 1]) rfl
        ·
          have hk1 : k < x.length / 32 := by omega
          have hk2 : k < y.length / 32 := by omega
          refine RD.pp rfl rfl rfl rfl (p_move rfl (by conv => lhs; whnf)) ?_
          refine RD.pp rfl rfl rfl rfl (p_move rfl (by conv => lhs; whnf)) ?_
          refine RD.pp rfl rfl rfl rfl (by first | exact (p_mulN (b := 32) rfl rfl rfl (by omega)) | exact (p_mul rfl rfl rfl (by omega))) ?_
          refine RD.pp rfl rfl rfl rfl (p_move rfl (by conv => lhs; whnf)) ?_
          refine RD.pp rfl rfl rfl rfl (by first | exact (p_addN (b := 1) rfl rfl rfl (by omega)) | exact (p_add rfl rfl rfl (by omega))) ?_
          refine RD.pp rfl rfl rfl rfl (by first | exact (p_mulN (b := 32) rfl rfl rfl (by omega)) | exact (p_mul rfl rfl rfl (by omega))) ?_
          refine RD.pp rfl rfl rfl rfl (by first | exact (p_sliceN_s rfl Try.underlying9 rfl rfl rfl (by omega)) | exact (p_slice_s rfl Try.underlying9 rfl rfl rfl (by omega))) ?_
          refine RD.pp rfl rfl rfl rfl (p_move rfl (by conv => lhs; whnf)) ?_
          refine RD.pp rfl rfl rfl rfl (p_move rfl (by conv => lhs; whnf)) ?_
          refine RD.pp rfl rfl rfl rfl (by first | exact (p_mulN (b := 32) rfl rfl rfl (by omega)) | exact (p_mul rfl rfl rfl (by omega))) ?_
          refine RD.pp rfl rfl rfl rfl (p_move rfl (by conv => lhs; whnf)) ?_
          refine RD.pp rfl rfl rfl rfl (by first | exact (p_addN (b := 1) rfl rfl rfl (by omega)) | exact (p_add rfl rfl rfl (by omega))) ?_
          refine RD.pp rfl rfl rfl rfl (by first | exact (p_mulN (b := 32) rfl rfl rfl (by omega)) | exact (p_mul rfl rfl rfl (by omega))) ?_
          refine RD.pp rfl rfl rfl rfl (by first | exact (p_sliceN_s rfl Try.underlying9 rfl rfl rfl (by omega)) | exact (p_slice_s rfl Try.underlying9 rfl rfl rfl (by omega))) ?_
          refine RD.pp rfl rfl rfl rfl (p_sneq rfl rfl rfl) ?_
          refine RD.pp rfl rfl rfl rfl (p_pick_f rfl rfl (by conv => lhs; whnf)) ?_
          refine RD.nil ?_
          refine hK11 _ _ ?_
          first | refine T.cond_dec rfl (fun h46 => ?_) (fun h46 => ?_) | refine T.cond rfl (fun h46 => ?_) (fun h46 => ?_)
          ·
            refine T.region (l := [0, 1, 2, 3, 4]) rfl ?_
            refine RN.qq rfl rfl rfl rfl (PRun.q (p_move rfl (by conv => lhs; whnf))) ?_
            refine RN.qq rfl rfl rfl rfl (PRun.q (p_move rfl (by conv => lhs; whnf))) ?_
            refine RN.E rfl rfl rfl rfl (e_buildSlice1 rfl Try.underlying40 ti_3 rfl (by conv => lhs; whnf) rfl) ?_
            rintro _ _ ⟨b49, rfl, rfl⟩
            refine RN.E rfl rfl rfl rfl (e_append rfl Try.underlying40 ni_40 ti_3 rfl rfl (i := 1) rfl (src_full (i := 0) rfl rfl) (by first | exact one_one rfl | simp [Value.oneCell']) (by omega)) ?_
            rintro v50 _ ⟨hv50, rfl⟩
            refine RN.qq rfl rfl rfl rfl (PRun.q (p_assign rfl (by conv => lhs; whnf))) ?_
            refine RN.nil ?_
            refine hK10 _ _ ?_
            refine T.region (l := [0, 1, 2]) rfl ?_
            refine RN.qq rfl rfl rfl rfl (PRun.q (p_move rfl (by conv => lhs; whnf))) ?_
            refine RN.qq rfl rfl rfl rfl (PRun.q (by first | exact (p_addN (b := 1) rfl rfl rfl (by omega)) | exact (p_add rfl rfl rfl (by omega)))) ?_
            refine RN.qq rfl rfl rfl rfl (PRun.q (p_assign rfl (by conv => lhs; whnf))) ?_
            refine RN.nil ?_
            refine ⟨(k + 1, v50), ⟨by omega, hv50⟩, (by simp; omega), (LiveIs.cons rfl (LiveIs.cons rfl (LiveIs.cons rfl (LiveIs.cons rfl LiveIs.nil)))), ?_⟩
            have hc : x.length / 32 ≤ k ∨ y.length / 32 ≤ k ∨ (x.take ((k + 1) * 32)).drop (k * 32) ≠ (y.take ((k + 1) * 32)).drop (k * 32) := by
              first
              | (left; omega)
              | (right; left; omega)
              | (right; right; exact h46)
            have e1 : difS x y (k + 1) = difS x y k ++ [k] := by rw [difS, if_pos hc]
            show Ent _ (sep [vec 3 1 v50 (difS x y (k + 1)).length ((difS x y (k + 1)).map intV), Fr])
            rw [e1, List.length_append, List.map_append]
            exact Ent.pull_drop (is := [1, 1]) rfl
          ·
            refine T.skip ?_
            refine hK10 _ _ ?_
            refine T.region (l := [0, 1, 2]) rfl ?_
            refine RN.qq rfl rfl rfl rfl (PRun.q (p_move rfl (by conv => lhs; whnf))) ?_
            refine RN.qq rfl rfl rfl rfl (PRun.q (by first | exact (p_addN (b := 1) rfl rfl rfl (by omega)) | exact (p_add rfl rfl rfl (by omega)))) ?_
            refine RN.qq rfl rfl rfl rfl (PRun.q (p_assign rfl (by conv => lhs; whnf))) ?_
            refine RN.nil ?_
            refine ⟨(k + 1, v), ⟨by omega, hv⟩, (by simp; omega), (LiveIs.cons rfl (LiveIs.cons rfl (LiveIs.cons rfl (LiveIs.cons rfl LiveIs.nil)))), ?_⟩
            have hn : ¬ (x.length / 32 ≤ k ∨ y.length / 32 ≤ k ∨ (x.take ((k + 1) * 32)).drop (k * 32) ≠ (y.take ((k + 1) * 32)).drop (k * 32)) := by
              intro h
              rcases h with h | h | h
              · omega
              · omega
              · exact h46 h
            have e1 : difS x y (k + 1) = difS x y k := by rw [difS, if_neg hn]
            show Ent _ (sep [vec 3 1 v (difS x y (k + 1)).length ((difS x y (k + 1)).map intV), Fr])
            rw [e1]
            exact Ent.refl _
    ·
      have hkm : k = max (x.length / 32) (y.length / 32) := by omega
      subst hkm
      refine T.exit ?_
      refine Post.seq_x ?_
      refine Post.seq_x ?_
      refine Post.block_hit ?_
      refine hK3 _ _ ?_
      refine T.seq fun K12 hK12 => ?_
      refine T.region (l := [0, 1]) rfl ?_
      refine RN.qq rfl rfl rfl rfl (PRun.q (p_move rfl (by conv => lhs; whnf))) ?_
      refine RN.qq rfl rfl rfl rfl (PRun.q (p_assign rfl (by conv => lhs; whnf))) ?_
      refine RN.nil ?_
      refine hK12 _ _ ?_
      refine T.ret ?_
      refine bodyQ_ret [vec 3 1 v (difS x y (max (x.length / 32) (y.length / 32))).length ((difS x y (max (x.length / 32) (y.length / 32))).map intV)] (RetRun.tmp RetRun.nil) ⟨hv, rfl⟩ (Ent.refl _)

end Go.Proofs.Yticfabhcfdmbjaa
