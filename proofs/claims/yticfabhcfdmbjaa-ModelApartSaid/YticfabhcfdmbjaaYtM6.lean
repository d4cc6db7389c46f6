/-
  Walks of package model.
-/
import Derived.Test.YticfabhcfdmbjaaYtM5
namespace Go.Proofs.Yticfabhcfdmbjaa
open Go Go.Sl Go.Proofs
set_option maxRecDepth 20000
open Go.Mo
theorem Differs_spec (A : Assn) (a p cap : Nat) (d1 : List Sec) (rest : List Value) (b p2 cap2 : Nat) (d2 : List Sec) (rest2 : List Value) (ha : Ent A (sep (arrR 75 49 5 a p cap d1 rest))) (hb : Ent A (sep (arrR 75 49 5 b p2 cap2 d2 rest2))) (hok1 : ∀ x ∈ d1, x.ok) (hok2 : ∀ x ∈ d2, x.ok) (hl1 : d1.length ≤ 512) (hl2 : d2.length ≤ 512) : Ctr Try.prog 21 [ptr a 0, ptr b 0] [A] (fun v Ps => v.oneCell' = true ∧ Ps = [vec 3 1 v (difK (bytesOf d1) (bytesOf d2) (max d1.length d2.length)).length ((difK (bytesOf d1) (bytesOf d2) (max d1.length d2.length)).map intV), A]) := by
  refine Ctr.of_body Try.func21 rfl (by kernel_rfl) Try.ntmps21 rfl rfl (fun Fr => ?_)
  refine T.seq fun K1 hK1 => ?_
  refine T.region (l := [0]) rfl ?_
  refine RN.qq rfl rfl rfl rfl (PRun.q (p_assign rfl (by conv => lhs; whnf))) ?_
  refine RN.nil ?_
  refine hK1 _ _ ?_
  refine T.seq fun K2 hK2 => ?_
  refine T.region (l := [0]) rfl ?_
  refine RN.qq rfl rfl rfl rfl (PRun.q (p_assign rfl (by conv => lhs; whnf))) ?_
  refine RN.nil ?_
  refine hK2 _ _ ?_
  refine T.seq fun K3 hK3 => ?_
  refine T.seq fun K4 hK4 => ?_
  refine T.regionD (z := 12) (Bs := [A]) (l := [(0, .pure), (1, .pure), (2, .pure), (3, .load), (4, .pure), (5, .pure), (6, .pure), (7, .pure), (8, .load), (9, .pure), (10, .pure), (11, .pure)]) mixed (by kernel_rfl) (by first | exact Ent.refl _ | exact Ent.pull_drop (is := [0]) rfl | exact Ent.pull_drop (is := [1]) rfl | exact Ent.pull_drop (is := [2]) rfl | exact Ent.pull_drop (is := [3]) rfl | exact Ent.pull_drop (is := [4]) rfl | exact Ent.pull_drop (is := [5]) rfl | exact Ent.pull_drop (is := [6]) rfl | exact Ent.pull_drop (is := [7]) rfl) ?_
  refine RD.pp rfl rfl rfl rfl (p_move rfl (by conv => lhs; whnf)) ?_
  refine RD.pp rfl rfl rfl rfl (p_nilCheck rfl rfl) ?_
  refine RD.pp rfl rfl rfl rfl (p_fieldAddr rfl fa_75_0 rfl) ?_
  refine RD.qq rfl rfl rfl rfl (QRun.ent ((Ent.head _ _).trans ha) (q_load rfl sc_73 rfl (i := 0) rfl rfl)) (by first | exact Ent.refl _ | exact Ent.pull_drop (is := [0]) rfl | exact Ent.pull_drop (is := [1]) rfl | exact Ent.pull_drop (is := [2]) rfl | exact Ent.pull_drop (is := [3]) rfl | exact Ent.pull_drop (is := [4]) rfl | exact Ent.pull_drop (is := [5]) rfl | exact Ent.pull_drop (is := [6]) rfl | exact Ent.pull_drop (is := [7]) rfl) ?_
  refine RD.pp rfl rfl rfl rfl (p_len rfl Try.underlying73 rfl) ?_
  refine RD.pp rfl rfl rfl rfl (p_move rfl (by conv => lhs; whnf)) ?_
  refine RD.pp rfl rfl rfl rfl (p_nilCheck rfl rfl) ?_
  refine RD.pp rfl rfl rfl rfl (p_fieldAddr rfl fa_75_0 rfl) ?_
  refine RD.qq rfl rfl rfl rfl (QRun.ent ((Ent.head _ _).trans hb) (q_load rfl sc_73 rfl (i := 0) rfl rfl)) (by first | exact Ent.refl _ | exact Ent.pull_drop (is := [0]) rfl | exact Ent.pull_drop (is := [1]) rfl | exact Ent.pull_drop (is := [2]) rfl | exact Ent.pull_drop (is := [3]) rfl | exact Ent.pull_drop (is := [4]) rfl | exact Ent.pull_drop (is := [5]) rfl | exact Ent.pull_drop (is := [6]) rfl | exact Ent.pull_drop (is := [7]) rfl) ?_
  refine RD.pp rfl rfl rfl rfl (p_len rfl Try.underlying73 rfl) ?_
  refine RD.pp rfl rfl rfl rfl (by first | exact (p_maxN rfl rfl rfl) | exact (p_max rfl rfl rfl)) ?_
  refine RD.pp rfl rfl rfl rfl (p_move rfl (by conv => lhs; whnf)) ?_
  refine RD.nil ?_
  refine hK4 _ _ ?_
  refine T.block ?_
  have hdl := difK_length (bytesOf d1) (bytesOf d2)
  refine T.loop (G := Nat × Value) (fun ⟨k, v⟩ => k ≤ max d1.length d2.length ∧ v.oneCell' = true) (fun ⟨k, v⟩ => [(0, ptr a 0), (1, ptr b 0), (5, v), (17, .int .i64 (max d1.length d2.length : Nat)), (18, .int .i64 k)]) (fun ⟨k, v⟩ => [vec 3 1 v (difK (bytesOf d1) (bytesOf d2) k).length ((difK (bytesOf d1) (bytesOf d2) k).map intV), A, Fr]) (fun ⟨k, v⟩ => max d1.length d2.length - k) (0, .slice none 0 0) ⟨by omega, rfl⟩ (LiveIs.cons rfl (LiveIs.cons rfl (LiveIs.cons rfl (LiveIs.cons rfl (LiveIs.cons rfl LiveIs.nil))))) (Ent.vec_nil' (el := 3) (sz := 1)) ?_
  rintro ⟨k, v⟩ e5 ⟨hk, hv⟩
  dsimp only
  have hdk := hdl k
  refine T.seq fun K6 hK6 => ?_
  refine T.region (l := [0]) rfl ?_
  refine RN.qq rfl rfl rfl rfl (PRun.q (p_lss rfl rfl rfl)) ?_
  refine RN.nil ?_
  refine hK6 _ _ ?_
  refine T.seq fun K7 hK7 => ?_
  first | refine T.cond_dec rfl (fun h19 => ?_) (fun h19 => ?_) | refine T.cond rfl (fun h19 => ?_) (fun h19 => ?_)
  ·
    refine T.skip ?_
    refine hK7 _ _ ?_
    refine T.seq fun K8 hK8 => ?_
    refine T.block ?_
    refine T.seq fun K9 hK9 => ?_
    refine T.region (l := [0, 1]) rfl ?_
    refine RN.qq rfl rfl rfl rfl (PRun.q (p_move rfl (by conv => lhs; whnf))) ?_
    refine RN.qq rfl rfl rfl rfl (PRun.q (p_assign rfl (by conv => lhs; whnf))) ?_
    refine RN.nil ?_
    refine hK9 _ _ ?_
    refine T.seq fun K10 hK10 => ?_
    refine T.regionD (z := 34) (Bs := [A]) (l := [(0, .pure), (1, .pure), (2, .pure), (3, .pure), (4, .load), (5, .pure), (6, .pure), (7, .pure), (8, .pure), (9, .pure), (10, .pure), (11, .pure), (12, .load), (13, .pure), (14, .pure), (15, .pure), (16, .pure), (17, .pure), (18, .pure), (19, .pure), (20, .load), (21, .pure), (22, .pure), (23, .load), (24, .pure), (25, .pure), (26, .pure), (27, .load), (28, .pure), (29, .pure), (30, .load), (31, .eff), (32, .pure), (33, .pure)]) mixed (by kernel_rfl) (by first | exact Ent.refl _ | exact Ent.pull_drop (is := [0]) rfl | exact Ent.pull_drop (is := [1]) rfl | exact Ent.pull_drop (is := [2]) rfl | exact Ent.pull_drop (is := [3]) rfl | exact Ent.pull_drop (is := [4]) rfl | exact Ent.pull_drop (is := [5]) rfl | exact Ent.pull_drop (is := [6]) rfl | exact Ent.pull_drop (is := [7]) rfl) ?_
    refine RD.pp rfl rfl rfl rfl (p_move rfl (by conv => lhs; whnf)) ?_
    refine RD.pp rfl rfl rfl rfl (p_move rfl (by conv => lhs; whnf)) ?_
    refine RD.pp rfl rfl rfl rfl (p_nilCheck rfl rfl) ?_
    refine RD.pp rfl rfl rfl rfl (p_fieldAddr rfl fa_75_0 rfl) ?_
    refine RD.qq rfl rfl rfl rfl (QRun.ent ((Ent.head _ _).trans ha) (q_load rfl sc_73 rfl (i := 0) rfl rfl)) (by first | exact Ent.refl _ | exact Ent.pull_drop (is := [0]) rfl | exact Ent.pull_drop (is := [1]) rfl | exact Ent.pull_drop (is := [2]) rfl | exact Ent.pull_drop (is := [3]) rfl | exact Ent.pull_drop (is := [4]) rfl | exact Ent.pull_drop (is := [5]) rfl | exact Ent.pull_drop (is := [6]) rfl | exact Ent.pull_drop (is := [7]) rfl) ?_
    refine RD.pp rfl rfl rfl rfl (p_len rfl Try.underlying73 rfl) ?_
    refine RD.pp rfl rfl rfl rfl (p_geq rfl rfl rfl) ?_
    refine RD.pp rfl rfl rfl rfl (p_move rfl (by conv => lhs; whnf)) ?_
    first | refine RD.split_dec 28 rfl (fun h28 => ?_) (fun h28 => ?_) | refine RD.split 28 rfl (fun h28 => ?_) (fun h28 => ?_)
    ·
      refine RD.OP rfl rfl rfl rfl ?_
      refine RD.OP rfl rfl rfl rfl ?_
      refine RD.OP rfl rfl rfl rfl ?_
      refine RD.OP rfl rfl rfl rfl ?_
      refine RD.OL rfl rfl rfl rfl (by first | exact Ent.refl _ | exact Ent.pull_drop (is := [0]) rfl | exact Ent.pull_drop (is := [1]) rfl | exact Ent.pull_drop (is := [2]) rfl | exact Ent.pull_drop (is := [3]) rfl | exact Ent.pull_drop (is := [4]) rfl | exact Ent.pull_drop (is := [5]) rfl | exact Ent.pull_drop (is := [6]) rfl | exact Ent.pull_drop (is := [7]) rfl) ?_
      refine RD.OP rfl rfl rfl rfl ?_
      refine RD.OP rfl rfl rfl rfl ?_
      refine RD.pp rfl rfl rfl rfl (p_pick_t rfl rfl (by conv => lhs; whnf)) ?_
      refine RD.pp rfl rfl rfl rfl (p_move rfl (by conv => lhs; whnf)) ?_
      refine RD.OP rfl rfl rfl rfl ?_
      refine RD.OP rfl rfl rfl rfl ?_
      refine RD.OP rfl rfl rfl rfl ?_
      refine RD.OL rfl rfl rfl rfl (by first | exact Ent.refl _ | exact Ent.pull_drop (is := [0]) rfl | exact Ent.pull_drop (is := [1]) rfl | exact Ent.pull_drop (is := [2]) rfl | exact Ent.pull_drop (is := [3]) rfl | exact Ent.pull_drop (is := [4]) rfl | exact Ent.pull_drop (is := [5]) rfl | exact Ent.pull_drop (is := [6]) rfl | exact Ent.pull_drop (is := [7]) rfl) ?_
      refine RD.OP rfl rfl rfl rfl ?_
      refine RD.OP rfl rfl rfl rfl ?_
      refine RD.OL rfl rfl rfl rfl (by first | exact Ent.refl _ | exact Ent.pull_drop (is := [0]) rfl | exact Ent.pull_drop (is := [1]) rfl | exact Ent.pull_drop (is := [2]) rfl | exact Ent.pull_drop (is := [3]) rfl | exact Ent.pull_drop (is := [4]) rfl | exact Ent.pull_drop (is := [5]) rfl | exact Ent.pull_drop (is := [6]) rfl | exact Ent.pull_drop (is := [7]) rfl) ?_
      refine RD.OP rfl rfl rfl rfl ?_
      refine RD.OP rfl rfl rfl rfl ?_
      refine RD.OP rfl rfl rfl rfl ?_
      refine RD.OL rfl rfl rfl rfl (by first | exact Ent.refl _ | exact Ent.pull_drop (is := [0]) rfl | exact Ent.pull_drop (is := [1]) rfl | exact Ent.pull_drop (is := [2]) rfl | exact Ent.pull_drop (is := [3]) rfl | exact Ent.pull_drop (is := [4]) rfl | exact Ent.pull_drop (is := [5]) rfl | exact Ent.pull_drop (is := [6]) rfl | exact Ent.pull_drop (is := [7]) rfl) ?_
      refine RD.OP rfl rfl rfl rfl ?_
      refine RD.OP rfl rfl rfl rfl ?_
      refine RD.OL rfl rfl rfl rfl (by first | exact Ent.refl _ | exact Ent.pull_drop (is := [0]) rfl | exact Ent.pull_drop (is := [1]) rfl | exact Ent.pull_drop (is := [2]) rfl | exact Ent.pull_drop (is := [3]) rfl | exact Ent.pull_drop (is := [4]) rfl | exact Ent.pull_drop (is := [5]) rfl | exact Ent.pull_drop (is := [6]) rfl | exact Ent.pull_drop (is := [7]) rfl) ?_
      refine RD.OE rfl rfl rfl rfl (.inl (by first | exact Ent.refl _ | exact Ent.pull_drop (is := [0]) rfl | exact Ent.pull_drop (is := [1]) rfl | exact Ent.pull_drop (is := [2]) rfl | exact Ent.pull_drop (is := [3]) rfl | exact Ent.pull_drop (is := [4]) rfl | exact Ent.pull_drop (is := [5]) rfl | exact Ent.pull_drop (is := [6]) rfl | exact Ent.pull_drop (is := [7]) rfl)) ?_
      refine RD.OP rfl rfl rfl rfl ?_
      refine RD.pp rfl rfl rfl rfl (p_pick_t rfl rfl (by conv => lhs; whnf)) ?_
      refine RD.nil ?_
      refine hK10 _ _ ?_
      refine T.cond_t rfl ?_
      refine T.region (l := [0, 1, 2, 3, 4]) rfl ?_
      refine RN.qq rfl rfl rfl rfl (PRun.q (p_move rfl (by conv => lhs; whnf))) ?_
      refine RN.qq rfl rfl rfl rfl (PRun.q (p_move rfl (by conv => lhs; whnf))) ?_
      refine RN.E rfl rfl rfl rfl (e_buildSlice1 rfl Try.underlying40 ti_3 rfl (by conv => lhs; whnf) rfl) ?_
      rintro _ _ ⟨b57, rfl, rfl⟩
      refine RN.E rfl rfl rfl rfl (by first | exact (e_append rfl Try.underlying40 ni_40 ti_3 rfl rfl (i := 0) rfl (src_full (i := 0) rfl rfl) (by first | exact one_one rfl | simp [Value.oneCell']) (by omega)) | exact (e_append rfl Try.underlying40 ni_40 ti_3 rfl rfl (i := 1) rfl (src_full (i := 0) rfl rfl) (by first | exact one_one rfl | simp [Value.oneCell']) (by omega)) | exact (e_append rfl Try.underlying40 ni_40 ti_3 rfl rfl (i := 2) rfl (src_full (i := 0) rfl rfl) (by first | exact one_one rfl | simp [Value.oneCell']) (by omega)) | exact (e_append rfl Try.underlying40 ni_40 ti_3 rfl rfl (i := 3) rfl (src_full (i := 0) rfl rfl) (by first | exact one_one rfl | simp [Value.oneCell']) (by omega)) | exact (e_append rfl Try.underlying40 ni_40 ti_3 rfl rfl (i := 4) rfl (src_full (i := 0) rfl rfl) (by first | exact one_one rfl | simp [Value.oneCell']) (by omega))) ?_
      rintro v58 _ ⟨hv58, rfl⟩
      refine RN.qq rfl rfl rfl rfl (PRun.q (p_assign rfl (by conv => lhs; whnf))) ?_
      refine RN.nil ?_
      refine hK8 _ _ ?_
      refine T.region (l := [0, 1]) rfl ?_
      refine RN.qq rfl rfl rfl rfl (PRun.q (by first | exact (p_addN (b := 1) rfl rfl rfl (by omega)) | exact (p_add rfl rfl rfl (by omega)))) ?_
      refine RN.qq rfl rfl rfl rfl (PRun.q (p_move rfl (by conv => lhs; whnf))) ?_
      refine RN.nil ?_
      refine ⟨(k + 1, v58), ⟨by omega, hv58⟩, (by simp; omega), (LiveIs.cons rfl (LiveIs.cons rfl (LiveIs.cons rfl (LiveIs.cons rfl (LiveIs.cons rfl LiveIs.nil))))), ?_⟩
      have hc : (bytesOf d1).length ≤ k ∨ (bytesOf d2).length ≤ k ∨ (bytesOf d1)[k]? ≠ (bytesOf d2)[k]? := by
        first
        | (left; simp; omega)
        | (right; left; simp; omega)
        | (right; right; simp [hk1, hk2]; exact h54)
      have e1 : difK (bytesOf d1) (bytesOf d2) (k + 1) = difK (bytesOf d1) (bytesOf d2) k ++ [k] := by rw [difK, if_pos hc]
      show Ent _ (sep [vec 3 1 v58 (difK (bytesOf d1) (bytesOf d2) (k + 1)).length ((difK (bytesOf d1) (bytesOf d2) (k + 1)).map intV), A, Fr])
      rw [e1, List.length_append, List.map_append]
      first
      | exact Ent.pull_drop (is := [1, 1, 1]) rfl
      | exact Ent.pull_drop (is := [2, 1, 1]) rfl
    ·
      refine RD.pp rfl rfl rfl rfl (p_move rfl (by conv => lhs; whnf)) ?_
      refine RD.pp rfl rfl rfl rfl (p_move rfl (by conv => lhs; whnf)) ?_
      refine RD.pp rfl rfl rfl rfl (p_nilCheck rfl rfl) ?_
      refine RD.pp rfl rfl rfl rfl (p_fieldAddr rfl fa_75_0 rfl) ?_
      refine RD.qq rfl rfl rfl rfl (QRun.ent ((Ent.head _ _).trans hb) (q_load rfl sc_73 rfl (i := 0) rfl rfl)) (by first | exact Ent.refl _ | exact Ent.pull_drop (is := [0]) rfl | exact Ent.pull_drop (is := [1]) rfl | exact Ent.pull_drop (is := [2]) rfl | exact Ent.pull_drop (is := [3]) rfl | exact Ent.pull_drop (is := [4]) rfl | exact Ent.pull_drop (is := [5]) rfl | exact Ent.pull_drop (is := [6]) rfl | exact Ent.pull_drop (is := [7]) rfl) ?_
      refine RD.pp rfl rfl rfl rfl (p_len rfl Try.underlying73 rfl) ?_
      refine RD.pp rfl rfl rfl rfl (p_geq rfl rfl rfl) ?_
      refine RD.pp rfl rfl rfl rfl (p_pick_f rfl rfl (by conv => lhs; whnf)) ?_
      refine RD.pp rfl rfl rfl rfl (p_move rfl (by conv => lhs; whnf)) ?_
      first | refine RD.split_dec 37 rfl (fun h37 => ?_) (fun h37 => ?_) | refine RD.split 37 rfl (fun h37 => ?_) (fun h37 => ?_)
      ·
        refine RD.OP rfl rfl rfl rfl ?_
        refine RD.OP rfl rfl rfl rfl ?_
        refine RD.OP rfl rfl rfl rfl ?_
        refine RD.OL rfl rfl rfl rfl (by first | exact Ent.refl _ | exact Ent.pull_drop (is := [0]) rfl | exact Ent.pull_drop (is := [1]) rfl | exact Ent.pull_drop (is := [2]) rfl | exact Ent.pull_drop (is := [3]) rfl | exact Ent.pull_drop (is := [4]) rfl | exact Ent.pull_drop (is := [5]) rfl | exact Ent.pull_drop (is := [6]) rfl | exact Ent.pull_drop (is := [7]) rfl) ?_
        refine RD.OP rfl rfl rfl rfl ?_
        refine RD.OP rfl rfl rfl rfl ?_
        refine RD.OL rfl rfl rfl rfl (by first | exact Ent.refl _ | exact Ent.pull_drop (is := [0]) rfl | exact Ent.pull_drop (is := [1]) rfl | exact Ent.pull_drop (is := [2]) rfl | exact Ent.pull_drop (is := [3]) rfl | exact Ent.pull_drop (is := [4]) rfl | exact Ent.pull_drop (is := [5]) rfl | exact Ent.pull_drop (is := [6]) rfl | exact Ent.pull_drop (is := [7]) rfl) ?_
        refine RD.OP rfl rfl rfl rfl ?_
        refine RD.OP rfl rfl rfl rfl ?_
        refine RD.OP rfl rfl rfl rfl ?_
        refine RD.OL rfl rfl rfl rfl (by first | exact Ent.refl _ | exact Ent.pull_drop (is := [0]) rfl | exact Ent.pull_drop (is := [1]) rfl | exact Ent.pull_drop (is := [2]) rfl | exact Ent.pull_drop (is := [3]) rfl | exact Ent.pull_drop (is := [4]) rfl | exact Ent.pull_drop (is := [5]) rfl | exact Ent.pull_drop (is := [6]) rfl | exact Ent.pull_drop (is := [7]) rfl) ?_
        refine RD.OP rfl rfl rfl rfl ?_
        refine RD.OP rfl rfl rfl rfl ?_
        refine RD.OL rfl rfl rfl rfl (by first | exact Ent.refl _ | exact Ent.pull_drop (is := [0]) rfl | exact Ent.pull_drop (is := [1]) rfl | exact Ent.pull_drop (is := [2]) rfl | exact Ent.pull_drop (is := [3]) rfl | exact Ent.pull_drop (is := [4]) rfl | exact Ent.pull_drop (is := [5]) rfl | exact Ent.pull_drop (is := [6]) rfl | exact Ent.pull_drop (is := [7]) rfl) ?_
        refine RD.OE rfl rfl rfl rfl (.inl (by first | exact Ent.refl _ | exact Ent.pull_drop (is := [0]) rfl | exact Ent.pull_drop (is := [1]) rfl | exact Ent.pull_drop (is := [2]) rfl | exact Ent.pull_drop (is := [3]) rfl | exact Ent.pull_drop (is := [4]) rfl | exact Ent.pull_drop (is := [5]) rfl | exact Ent.pull_drop (is := [6]) rfl | exact Ent.pull_drop (is := [7]) rfl)) ?_
        refine RD.OP rfl rfl rfl rfl ?_
        refine RD.pp rfl rfl rfl rfl (p_pick_t rfl rfl (by conv => lhs; whnf)) ?_
        refine RD.nil ?_
        refine hK10 _ _ ?_
        refine T.cond_t rfl ?_
        refine T.region (l := [0, 1, 2, 3, 4]) rfl ?_
        refine RN.qq rfl rfl rfl rfl (PRun.q (p_move rfl (by conv => lhs; whnf))) ?_
        refine RN.qq rfl rfl rfl rfl (PRun.q (p_move rfl (by conv => lhs; whnf))) ?_
        refine RN.E rfl rfl rfl rfl (e_buildSlice1 rfl Try.underlying40 ti_3 rfl (by conv => lhs; whnf) rfl) ?_
        rintro _ _ ⟨b57, rfl, rfl⟩
        refine RN.E rfl rfl rfl rfl (by first | exact (e_append rfl Try.underlying40 ni_40 ti_3 rfl rfl (i := 0) rfl (src_full (i := 0) rfl rfl) (by first | exact one_one rfl | simp [Value.oneCell']) (by omega)) | exact (e_append rfl Try.underlying40 ni_40 ti_3 rfl rfl (i := 1) rfl (src_full (i := 0) rfl rfl) (by first | exact one_one rfl | simp [Value.oneCell']) (by omega)) | exact (e_append rfl Try.underlying40 ni_40 ti_3 rfl rfl (i := 2) rfl (src_full (i := 0) rfl rfl) (by first | exact one_one rfl | simp [Value.oneCell']) (by omega)) | exact (e_append rfl Try.underlying40 ni_40 ti_3 rfl rfl (i := 3) rfl (src_full (i := 0) rfl rfl) (by first | exact one_one rfl | simp [Value.oneCell']) (by omega)) | exact (e_append rfl Try.underlying40 ni_40 ti_3 rfl rfl (i := 4) rfl (src_full (i := 0) rfl rfl) (by first | exact one_one rfl | simp [Value.oneCell']) (by omega))) ?_
        rintro v58 _ ⟨hv58, rfl⟩
        refine RN.qq rfl rfl rfl rfl (PRun.q (p_assign rfl (by conv => lhs; whnf))) ?_
        refine RN.nil ?_
        refine hK8 _ _ ?_
        refine T.region (l := [0, 1]) rfl ?_
        refine RN.qq rfl rfl rfl rfl (PRun.q (by first | exact (p_addN (b := 1) rfl rfl rfl (by omega)) | exact (p_add rfl rfl rfl (by omega)))) ?_
        refine RN.qq rfl rfl rfl rfl (PRun.q (p_move rfl (by conv => lhs; whnf))) ?_
        refine RN.nil ?_
        refine ⟨(k + 1, v58), ⟨by omega, hv58⟩, (by simp; omega), (LiveIs.cons rfl (LiveIs.cons rfl (LiveIs.cons rfl (LiveIs.cons rfl (LiveIs.cons rfl LiveIs.nil))))), ?_⟩
        have hc : (bytesOf d1).length ≤ k ∨ (bytesOf d2).length ≤ k ∨ (bytesOf d1)[k]? ≠ (bytesOf d2)[k]? := by
          first
          | (left; simp; omega)
          | (right; left; simp; omega)
          | (right; right; simp [hk1, hk2]; exact h54)
        have e1 : difK (bytesOf d1) (bytesOf d2) (k + 1) = difK (bytesOf d1) (bytesOf d2) k ++ [k] := by rw [difK, if_pos hc]
        show Ent _ (sep [vec 3 1 v58 (difK (bytesOf d1) (bytesOf d2) (k + 1)).length ((difK (bytesOf d1) (bytesOf d2) (k + 1)).map intV), A, Fr])
        rw [e1, List.length_append, List.map_append]
        first
        | exact Ent.pull_drop (is := [1, 1, 1]) rfl
        | exact Ent.pull_drop (is := [2, 1, 1]) rfl
      ·
        have hk1 : k < d1.length := by omega
        have hk2 : k < d2.length := by omega
        refine RD.pp rfl rfl rfl rfl (p_move rfl (by conv => lhs; whnf)) ?_
        refine RD.pp rfl rfl rfl rfl (p_nilCheck rfl rfl) ?_
        refine RD.pp rfl rfl rfl rfl (p_fieldAddr rfl fa_75_0 rfl) ?_
        refine RD.qq rfl rfl rfl rfl (QRun.ent ((Ent.head _ _).trans ha) (q_load rfl sc_73 rfl (i := 0) rfl rfl)) (by first | exact Ent.refl _ | exact Ent.pull_drop (is := [0]) rfl | exact Ent.pull_drop (is := [1]) rfl | exact Ent.pull_drop (is := [2]) rfl | exact Ent.pull_drop (is := [3]) rfl | exact Ent.pull_drop (is := [4]) rfl | exact Ent.pull_drop (is := [5]) rfl | exact Ent.pull_drop (is := [6]) rfl | exact Ent.pull_drop (is := [7]) rfl) ?_
        refine RD.pp rfl rfl rfl rfl (p_move rfl (by conv => lhs; whnf)) ?_
        refine RD.pp rfl rfl rfl rfl (by first | exact (p_indexAddr1N rfl Try.underlying73 ts_49 rfl rfl (by omega)) | exact (p_indexAddr1 rfl Try.underlying73 ts_49 rfl rfl (by omega))) ?_
        refine RD.qq rfl rfl rfl rfl (QRun.ent ((Ent.head _ _).trans ha) (q_load rfl sc_49 rfl (i := 1) rfl (hdr_get hk1))) (by first | exact Ent.refl _ | exact Ent.pull_drop (is := [0]) rfl | exact Ent.pull_drop (is := [1]) rfl | exact Ent.pull_drop (is := [2]) rfl | exact Ent.pull_drop (is := [3]) rfl | exact Ent.pull_drop (is := [4]) rfl | exact Ent.pull_drop (is := [5]) rfl | exact Ent.pull_drop (is := [6]) rfl | exact Ent.pull_drop (is := [7]) rfl) ?_
        refine RD.pp rfl rfl rfl rfl (p_move rfl (by conv => lhs; whnf)) ?_
        refine RD.pp rfl rfl rfl rfl (p_nilCheck rfl rfl) ?_
        refine RD.pp rfl rfl rfl rfl (p_fieldAddr rfl fa_75_0 rfl) ?_
        refine RD.qq rfl rfl rfl rfl (QRun.ent ((Ent.head _ _).trans hb) (q_load rfl sc_73 rfl (i := 0) rfl rfl)) (by first | exact Ent.refl _ | exact Ent.pull_drop (is := [0]) rfl | exact Ent.pull_drop (is := [1]) rfl | exact Ent.pull_drop (is := [2]) rfl | exact Ent.pull_drop (is := [3]) rfl | exact Ent.pull_drop (is := [4]) rfl | exact Ent.pull_drop (is := [5]) rfl | exact Ent.pull_drop (is := [6]) rfl | exact Ent.pull_drop (is := [7]) rfl) ?_
        refine RD.pp rfl rfl rfl rfl (p_move rfl (by conv => lhs; whnf)) ?_
        refine RD.pp rfl rfl rfl rfl (by first | exact (p_indexAddr1N rfl Try.underlying73 ts_49 rfl rfl (by omega)) | exact (p_indexAddr1 rfl Try.underlying73 ts_49 rfl rfl (by omega))) ?_
        refine RD.qq rfl rfl rfl rfl (QRun.ent ((Ent.head _ _).trans hb) (q_load rfl sc_49 rfl (i := 1) rfl (hdr_get hk2))) (by first | exact Ent.refl _ | exact Ent.pull_drop (is := [0]) rfl | exact Ent.pull_drop (is := [1]) rfl | exact Ent.pull_drop (is := [2]) rfl | exact Ent.pull_drop (is := [3]) rfl | exact Ent.pull_drop (is := [4]) rfl | exact Ent.pull_drop (is := [5]) rfl | exact Ent.pull_drop (is := [6]) rfl | exact Ent.pull_drop (is := [7]) rfl) ?_
        refine RD.C [1] rfl rfl rfl rfl (c_call rfl rfl) (Equal_spec A d1[k].b 0 32 d1[k].cap d2[k].b 0 32 d2[k].cap (d1[k].s.map u8V ++ d1[k].rest) (d2[k].s.map u8V ++ d2[k].rest) d1[k].s d2[k].s (ha.trans ((Ent.inside (i := 2) rfl (own_nth hk1)).trans (Ent.head _ _))) (hb.trans ((Ent.inside (i := 2) rfl (own_nth hk2)).trans (Ent.head _ _))) (by simp [show d1[k].s.length = 32 from ok_get hok1 hk1]) (by rw [List.drop_zero, List.take_left' (by simp [show d1[k].s.length = 32 from ok_get hok1 hk1])]) (by simp [show d2[k].s.length = 32 from ok_get hok2 hk2]) (by rw [List.drop_zero, List.take_left' (by simp [show d2[k].s.length = 32 from ok_get hok2 hk2])])) rfl (by rintro _ _ ⟨rfl, rfl⟩; exact .inl (by first | exact Ent.refl _ | exact Ent.pull_drop (is := [0]) rfl | exact Ent.pull_drop (is := [1]) rfl | exact Ent.pull_drop (is := [2]) rfl | exact Ent.pull_drop (is := [3]) rfl | exact Ent.pull_drop (is := [4]) rfl | exact Ent.pull_drop (is := [5]) rfl | exact Ent.pull_drop (is := [6]) rfl | exact Ent.pull_drop (is := [7]) rfl)) ?_
        rintro _ _ ⟨rfl, rfl⟩
        refine RD.pp rfl rfl rfl rfl (by first | exact (p_not_dec rfl rfl) | exact (p_not rfl rfl)) ?_
        refine RD.pp rfl rfl rfl rfl (p_pick_f rfl rfl (by conv => lhs; whnf)) ?_
        refine RD.nil ?_
        refine hK10 _ _ ?_
        first | refine T.cond_dec rfl (fun h54 => ?_) (fun h54 => ?_) | refine T.cond rfl (fun h54 => ?_) (fun h54 => ?_)
        ·
          refine T.region (l := [0, 1, 2, 3, 4]) rfl ?_
          refine RN.qq rfl rfl rfl rfl (PRun.q (p_move rfl (by conv => lhs; whnf))) ?_
          refine RN.qq rfl rfl rfl rfl (PRun.q (p_move rfl (by conv => lhs; whnf))) ?_
          refine RN.E rfl rfl rfl rfl (e_buildSlice1 rfl Try.underlying40 ti_3 rfl (by conv => lhs; whnf) rfl) ?_
          rintro _ _ ⟨b57, rfl, rfl⟩
          refine RN.E rfl rfl rfl rfl (by first | exact (e_append rfl Try.underlying40 ni_40 ti_3 rfl rfl (i := 0) rfl (src_full (i := 0) rfl rfl) (by first | exact one_one rfl | simp [Value.oneCell']) (by omega)) | exact (e_append rfl Try.underlying40 ni_40 ti_3 rfl rfl (i := 1) rfl (src_full (i := 0) rfl rfl) (by first | exact one_one rfl | simp [Value.oneCell']) (by omega)) | exact (e_append rfl Try.underlying40 ni_40 ti_3 rfl rfl (i := 2) rfl (src_full (i := 0) rfl rfl) (by first | exact one_one rfl | simp [Value.oneCell']) (by omega)) | exact (e_append rfl Try.underlying40 ni_40 ti_3 rfl rfl (i := 3) rfl (src_full (i := 0) rfl rfl) (by first | exact one_one rfl | simp [Value.oneCell']) (by omega)) | exact (e_append rfl Try.underlying40 ni_40 ti_3 rfl rfl (i := 4) rfl (src_full (i := 0) rfl rfl) (by first | exact one_one rfl | simp [Value.oneCell']) (by omega))) ?_
          rintro v58 _ ⟨hv58, rfl⟩
          refine RN.qq rfl rfl rfl rfl (PRun.q (p_assign rfl (by conv => lhs; whnf))) ?_
          refine RN.nil ?_
          refine hK8 _ _ ?_
          refine T.region (l := [0, 1]) rfl ?_
          refine RN.qq rfl rfl rfl rfl (PRun.q (by first | exact (p_addN (b := 1) rfl rfl rfl (by omega)) | exact (p_add rfl rfl rfl (by omega)))) ?_
          refine RN.qq rfl rfl rfl rfl (PRun.q (p_move rfl (by conv => lhs; whnf))) ?_
          refine RN.nil ?_
          refine ⟨(k + 1, v58), ⟨by omega, hv58⟩, (by simp; omega), (LiveIs.cons rfl (LiveIs.cons rfl (LiveIs.cons rfl (LiveIs.cons rfl (LiveIs.cons rfl LiveIs.nil))))), ?_⟩
          have hc : (bytesOf d1).length ≤ k ∨ (bytesOf d2).length ≤ k ∨ (bytesOf d1)[k]? ≠ (bytesOf d2)[k]? := by
            first
            | (left; simp; omega)
            | (right; left; simp; omega)
            | (right; right; simp [hk1, hk2]; exact h54)
          have e1 : difK (bytesOf d1) (bytesOf d2) (k + 1) = difK (bytesOf d1) (bytesOf d2) k ++ [k] := by rw [difK, if_pos hc]
          show Ent _ (sep [vec 3 1 v58 (difK (bytesOf d1) (bytesOf d2) (k + 1)).length ((difK (bytesOf d1) (bytesOf d2) (k + 1)).map intV), A, Fr])
          rw [e1, List.length_append, List.map_append]
          first
          | exact Ent.pull_drop (is := [1, 1, 1]) rfl
          | exact Ent.pull_drop (is := [2, 1, 1]) rfl
        ·
          refine T.skip ?_
          refine hK8 _ _ ?_
          refine T.region (l := [0, 1]) rfl ?_
          refine RN.qq rfl rfl rfl rfl (PRun.q (by first | exact (p_addN (b := 1) rfl rfl rfl (by omega)) | exact (p_add rfl rfl rfl (by omega)))) ?_
          refine RN.qq rfl rfl rfl rfl (PRun.q (p_move rfl (by conv => lhs; whnf))) ?_
          refine RN.nil ?_
          refine ⟨(k + 1, v), ⟨by omega, hv⟩, (by simp; omega), (LiveIs.cons rfl (LiveIs.cons rfl (LiveIs.cons rfl (LiveIs.cons rfl (LiveIs.cons rfl LiveIs.nil))))), ?_⟩
          have hn : ¬ ((bytesOf d1).length ≤ k ∨ (bytesOf d2).length ≤ k ∨ (bytesOf d1)[k]? ≠ (bytesOf d2)[k]?) := by
            simp [hk1, hk2]
            exact Classical.not_not.1 h54
          have e1 : difK (bytesOf d1) (bytesOf d2) (k + 1) = difK (bytesOf d1) (bytesOf d2) k := by rw [difK, if_neg hn]
          show Ent _ (sep [vec 3 1 v (difK (bytesOf d1) (bytesOf d2) (k + 1)).length ((difK (bytesOf d1) (bytesOf d2) (k + 1)).map intV), A, Fr])
          rw [e1]
          exact Ent.pull_drop (is := [1, 0, 0]) rfl
  ·
    have hkm : k = max d1.length d2.length := by omega
    subst hkm
    refine T.exit ?_
    refine Post.seq_x ?_
    refine Post.seq_x ?_
    refine Post.block_hit ?_
    refine hK3 _ _ ?_
    refine T.seq fun K11 hK11 => ?_
    refine T.region (l := [0, 1]) rfl ?_
    refine RN.qq rfl rfl rfl rfl (PRun.q (p_move rfl (by conv => lhs; whnf))) ?_
    refine RN.qq rfl rfl rfl rfl (PRun.q (p_assign rfl (by conv => lhs; whnf))) ?_
    refine RN.nil ?_
    refine hK11 _ _ ?_
    refine T.ret ?_
    refine bodyQ_ret [vec 3 1 v (difK (bytesOf d1) (bytesOf d2) (max d1.length d2.length)).length ((difK (bytesOf d1) (bytesOf d2) (max d1.length d2.length)).map intV), A] (RetRun.tmp RetRun.nil) ⟨hv, rfl⟩ (Ent.refl _)

end Go.Proofs.Yticfabhcfdmbjaa
