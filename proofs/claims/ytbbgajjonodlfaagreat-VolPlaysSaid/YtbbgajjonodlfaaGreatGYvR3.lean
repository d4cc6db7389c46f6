/-
 The reference: walked.
-/
import Derived.Test.YtbbgajjonodlfaaGreatGYvR2
import Derived.Test.YtbbgajjonodlfaaGreatGYvN1
set_option linter.unusedVariables false
set_option linter.unusedSimpArgs false
namespace Go.Proofs.YtbbgajjonodlfaaGreat
open Go Go.Sl Go.Proofs
set_option maxRecDepth 20000
open Go.Mo Go.Evl
theorem RGood_A (l : List UInt8) : Ctr Tryz.prog 54 [strV l] [] (fun v Ps => v = .bool (gb l) ∧ Ps = []) :=
 (RGood_spec l).mono (Ent.refl _) (by
  rintro v Ps ⟨r, rfl, hr, rfl⟩
  exact ⟨[], ⟨congrArg Value.bool (gb_eq hr), rfl⟩, Ent.refl _⟩)
theorem rd_noname {c : Nat} {b : List UInt8} (h : (b.getD 1 0).toNat = 0) : rdE c b = VE.zero := by
 unfold rdE
 rw [if_neg]
 rintro ⟨_, _, h2⟩
 have h3 := (gb_len h2.1).1
 have e : (saysT b).name = [] := by
  show piece b 2 (b.getD 1 0).toNat = []
  rw [h]
  unfold piece
  exact List.drop_eq_nil_of_le (by rw [List.length_take]; omega)
 rw [e] at h3
 exact absurd h3 (by decide)
theorem piece_two {b : List UInt8} {i : Nat} (h : i + 2 ≤ b.length) : leV (piece b i 2) = (b.getD i 0).toNat + 256 * (b.getD (i + 1) 0).toNat := by
 have e : piece b i 2 = [b.getD i 0, b.getD (i + 1) 0] := by
  unfold piece
  rw [List.drop_take, show i + 2 - i = 2 by omega, List.drop_eq_getElem_cons (by omega), List.take_succ_cons, List.drop_eq_getElem_cons (by omega), List.take_succ_cons, List.take_zero]
  simp only [List.getD_eq_getElem?_getD]
  rw [List.getElem?_eq_getElem (by omega), List.getElem?_eq_getElem (by omega)]
  rfl
 rw [e]
 rfl

theorem entry_spec (t : List UInt8) (k c : Nat) (hk : k < 8) (ht : t.length = c * 32) (hc : 9 ≤ c ∧ c ≤ 512) : Ctr Tryz.prog 34 [strV t, intV k] [] (fun v Ps => v = .tuple #[.agg (rcE (if 0 < (rdE c (secT t k)).len then ((rdE c (secT t k)), k) else (VE.zero, 0))).toArray, .bool (decide (0 < (rdE c (secT t k)).len))] ∧ Ps = []) := by
 refine Ctr.of_body Tryz.func34 rfl (by kernel_rfl) Tryz.ntmps34 rfl rfl (fun Fr => ?_)
 have hbl : (secT t k).length = 32 := sec_len (by omega)
 have hF : (saysT (secT t k)).first = leV (piece (secT t k) 18 2) := rfl
 have hL : (saysT (secT t k)).len = leV (piece (secT t k) 20 2) := rfl
 have hp18 := piece_two (b := (secT t k)) (i := 18) (by omega)
 have hp20 := piece_two (b := (secT t k)) (i := 20) (by omega)
 have hcap := cap_of ht
 have hb18 : leV (piece (secT t k) 18 2) < 65536 := by have h1 := ((secT t k).getD 18 0).toNat_lt; have h2 := ((secT t k).getD (18 + 1) 0).toNat_lt; omega
 have hb20 : leV (piece (secT t k) 20 2) < 65536 := by have h1 := ((secT t k).getD 20 0).toNat_lt; have h2 := ((secT t k).getD (20 + 1) 0).toNat_lt; omega
 refine T.seq fun K1 hK1 => ?_
 refine T.region (l := [0, 1]) rfl ?_
 refine RN.E rfl rfl rfl rfl (e_alloc rfl ti_79) ?_
 rintro _ _ ⟨b4, rfl, rfl⟩
 refine RN.a rfl ?_
 refine RN.nil ?_
 refine hK1 _ _ ?_
 refine T.seq fun K2 hK2 => ?_
 refine T.region (l := [0, 1, 2, 3, 4, 5, 6, 7]) rfl ?_
 refine RN.m rfl ?_
 refine RN.m rfl ?_
 refine RN.p rfl (by exact (p_mulN (b := 32) rfl rfl rfl (by omega))) ?_
 refine RN.m rfl ?_
 refine RN.p rfl (by exact (p_addN (b := 1) rfl rfl rfl (by omega))) ?_
 refine RN.p rfl (by exact (p_mulN (b := 32) rfl rfl rfl (by omega))) ?_
 refine RN.p rfl (by exact (p_sliceN_s rfl Tryz.underlying9 rfl rfl rfl (by omega))) ?_
 refine RN.a rfl ?_
 refine RN.nil ?_
 refine hK2 _ _ ?_
 refine T.seq fun K3 hK3 => ?_
 refine T.region (l := [0, 1, 2, 3]) rfl ?_
 refine RN.m rfl ?_
 refine RN.p rfl (by exact (p_indexN_s (n := 1) rfl Tryz.underlying9 rfl rfl (show (secT t k)[1]? = some ((secT t k).getD 1 0) by rw [List.getD_eq_getElem?_getD, List.getElem?_eq_getElem (by rw [hbl]; decide)]; rfl))) ?_
 refine RN.p rfl (p_conv_i64 rfl Tryz.underlying5 Tryz.underlying3 rfl (by have := ((secT t k).getD 1 0).toNat_lt; omega)) ?_
 refine RN.a rfl ?_
 refine RN.nil ?_
 refine hK3 _ _ ?_
 refine T.seq fun K4 hK4 => ?_
 refine T.seq fun K5 hK5 => ?_
 refine T.region (l := [0, 1, 2, 3, 4, 5]) rfl ?_
 refine RN.m rfl ?_
 refine RN.p rfl (p_lss rfl rfl rfl) ?_
 refine RN.m rfl ?_
 refine RN.split_dec 21 rfl (fun h21 => ?_) (fun h21 => ?_)
 ·
  refine RN.no0 rfl ?_
  refine RN.no0 rfl ?_
  refine RN.pt rfl ?_
  refine RN.nil ?_
  refine hK5 _ _ ?_
  refine T.cond_t rfl ?_
  refine T.seq fun K6 hK6 => ?_
  refine T.region (l := [0, 1, 2]) rfl ?_
  refine RN.p rfl (p_build rfl pl_79 ti_79 (by dsimp [layAll, lay]; rfl)) ?_
  refine RN.EN rfl rfl rfl (by exact (e_storeA rfl ts_79 rfl rfl rfl (rcE_one (VE.zero, 0)) (i := 0) rfl (by (simp; done)))) ?_
  rintro _ _ ⟨rfl, rfl⟩
  refine RN.a rfl ?_
  refine RN.nil ?_
  refine hK6 _ _ ?_
  refine T.ret ?_
  refine Post.seq_r ?_
  have hz : (rdE c (secT t k)) = VE.zero := rd_noname (by omega)
  have hl0 : ¬ 0 < (rdE c (secT t k)).len := by rw [hz]; decide
  refine bodyQ_ret [] (RetRun.cell rfl (load_cellV ag_79 ts_79 (i := 0) rfl (Nat.le_refl 4) rfl) (RetRun.tmp RetRun.nil)) ⟨by rw [if_neg hl0, decide_eq_false hl0]; rfl, rfl⟩ (Ent.drop _ _)
 ·
  refine RN.m rfl ?_
  refine RN.p rfl (p_gtr rfl rfl rfl) ?_
  refine RN.pf rfl ?_
  refine RN.nil ?_
  refine hK5 _ _ ?_
  refine T.cond_dec rfl (fun h24 => ?_) (fun h24 => ?_)
  ·
   refine T.seq fun K7 hK7 => ?_
   refine T.region (l := [0, 1, 2]) rfl ?_
   refine RN.p rfl (p_build rfl pl_79 ti_79 (by dsimp [layAll, lay]; rfl)) ?_
   refine RN.EN rfl rfl rfl (by exact (e_storeA rfl ts_79 rfl rfl rfl (rcE_one (VE.zero, 0)) (i := 0) rfl (by (simp; done)))) ?_
   rintro _ _ ⟨rfl, rfl⟩
   refine RN.a rfl ?_
   refine RN.nil ?_
   refine hK7 _ _ ?_
   refine T.ret ?_
   refine Post.seq_r ?_
   have hz : (rdE c (secT t k)) = VE.zero := by unfold rdE; rw [if_neg (fun h => by have := h.1; omega)]
   have hl0 : ¬ 0 < (rdE c (secT t k)).len := by rw [hz]; decide
   refine bodyQ_ret [] (RetRun.cell rfl (load_cellV ag_79 ts_79 (i := 0) rfl (Nat.le_refl 4) rfl) (RetRun.tmp RetRun.nil)) ⟨by rw [if_neg hl0, decide_eq_false hl0]; rfl, rfl⟩ (Ent.drop _ _)
  ·
   have h16 : ((secT t k).getD 1 0).toNat ≤ 16 := by omega
   refine T.skip ?_
   refine hK4 _ _ ?_
   refine T.seq fun K8 hK8 => ?_
   refine T.regionD (z := 23) (Bs := []) (l := [(0, .pure), (1, .pure), (2, .pure), (3, .pure), (4, .pure), (5, .pure), (6, .pure), (7, .pure), (8, .pure), (9, .pure), (10, .pure), (11, .pure), (12, .pure), (13, .pure), (14, .pure), (15, .pure), (16, .pure), (17, .pure), (18, .pure), (19, .pure), (20, .pure), (21, .pure), (22, .eff), (23, .eff)]) mixed (by kernel_rfl) (Ent.nil _) ?_
   refine RD.n rfl (p_move rfl (by conv => lhs; whnf)) ?_
   refine RD.n rfl (p_move rfl (by conv => lhs; whnf)) ?_
   refine RD.n rfl (by exact (p_addN (a := 2) rfl rfl rfl (by omega))) ?_
   refine RD.n rfl (by exact (p_sliceN_s (l := 2) rfl Tryz.underlying9 rfl rfl rfl (by have : ((t.take ((k + 1) * 32)).drop (k * 32)).length = 32 := hbl; omega))) ?_
   refine RD.n rfl (p_move rfl (by conv => lhs; whnf)) ?_
   refine RD.n rfl (by exact (p_indexN_s (n := 18) rfl Tryz.underlying9 rfl rfl (show (secT t k)[18]? = some ((secT t k).getD 18 0) by rw [List.getD_eq_getElem?_getD, List.getElem?_eq_getElem (by rw [hbl]; decide)]; rfl))) ?_
   refine RD.n rfl (p_conv_i64 rfl Tryz.underlying5 Tryz.underlying3 rfl (by have := ((secT t k).getD 18 0).toNat_lt; omega)) ?_
   refine RD.n rfl (p_move rfl (by conv => lhs; whnf)) ?_
   refine RD.n rfl (by exact (p_indexN_s (n := 19) rfl Tryz.underlying9 rfl rfl (show (secT t k)[19]? = some ((secT t k).getD 19 0) by rw [List.getD_eq_getElem?_getD, List.getElem?_eq_getElem (by rw [hbl]; decide)]; rfl))) ?_
   refine RD.n rfl (p_conv_i64 rfl Tryz.underlying5 Tryz.underlying3 rfl (by have := ((secT t k).getD 19 0).toNat_lt; omega)) ?_
   refine RD.n rfl (by exact (p_mulN (a := 256) rfl rfl rfl (by have := ((secT t k).getD 19 0).toNat_lt; omega))) ?_
   refine RD.n rfl (by exact (p_addN rfl rfl rfl (by have := ((secT t k).getD 18 0).toNat_lt; have := ((secT t k).getD 19 0).toNat_lt; omega))) ?_
   refine RD.n rfl (p_move rfl (by conv => lhs; whnf)) ?_
   refine RD.n rfl (by exact (p_indexN_s (n := 20) rfl Tryz.underlying9 rfl rfl (show (secT t k)[20]? = some ((secT t k).getD 20 0) by rw [List.getD_eq_getElem?_getD, List.getElem?_eq_getElem (by rw [hbl]; decide)]; rfl))) ?_
   refine RD.n rfl (p_conv_i64 rfl Tryz.underlying5 Tryz.underlying3 rfl (by have := ((secT t k).getD 20 0).toNat_lt; omega)) ?_
   refine RD.n rfl (p_move rfl (by conv => lhs; whnf)) ?_
   refine RD.n rfl (by exact (p_indexN_s (n := 21) rfl Tryz.underlying9 rfl rfl (show (secT t k)[21]? = some ((secT t k).getD 21 0) by rw [List.getD_eq_getElem?_getD, List.getElem?_eq_getElem (by rw [hbl]; decide)]; rfl))) ?_
   refine RD.n rfl (p_conv_i64 rfl Tryz.underlying5 Tryz.underlying3 rfl (by have := ((secT t k).getD 21 0).toNat_lt; omega)) ?_
   refine RD.n rfl (by exact (p_mulN (a := 256) rfl rfl rfl (by have := ((secT t k).getD 21 0).toNat_lt; omega))) ?_
   refine RD.n rfl (by exact (p_addN rfl rfl rfl (by have := ((secT t k).getD 20 0).toNat_lt; have := ((secT t k).getD 21 0).toNat_lt; omega))) ?_
   refine RD.n rfl (p_move rfl (by conv => lhs; whnf)) ?_
   refine RD.n rfl (p_build rfl pl_79 ti_79 (by dsimp [layAll, lay]; rfl)) ?_
   refine RD.E rfl rfl rfl rfl (e_alloc rfl ti_79) (by rintro _ _ ⟨_, rfl, rfl⟩; exact .inl (Ent.nil _)) ?_
   rintro _ _ ⟨b8, rfl, rfl⟩
   refine RD.EN rfl rfl rfl (by exact (e_storeA rfl ts_79 rfl rfl rfl (rcE_one (⟨piece (secT t k) 2 ((secT t k).getD 1 0).toNat, ((secT t k).getD 18 0).toNat + 256 * ((secT t k).getD 19 0).toNat, ((secT t k).getD 20 0).toNat + 256 * ((secT t k).getD 21 0).toNat⟩, k)) (i := 0) rfl (by (simp; done)))) (fun _ _ _ => .inr rfl) ?_
   rintro _ _ ⟨rfl, rfl⟩
   refine RD.nil ?_
   refine hK8 _ _ ?_
   refine T.seq fun K9 hK9 => ?_
   refine T.seq fun K10 hK10 => ?_
   refine T.ent (Hs' := [row b8 79 [strV (piece (secT t k) 2 ((secT t k).getD 1 0).toNat), intV (leV (piece (secT t k) 18 2)), intV (leV (piece (secT t k) 20 2)), intV k], row b4 79 (rcE (VE.zero, 0)), Fr]) (Ent.rowEq (by rw [hp18, hp20]; rfl)) ?_
   refine T.regionD (z := 30) (Bs := [row b8 79 [strV (piece (secT t k) 2 ((secT t k).getD 1 0).toNat), intV (leV (piece (secT t k) 18 2)), intV (leV (piece (secT t k) 20 2)), intV k]]) (l := [(0, .pure), (1, .load), (2, .eff), (3, .pure), (4, .pure), (5, .pure), (6, .load), (7, .pure), (8, .pure), (9, .pure), (10, .pure), (11, .load), (12, .pure), (13, .pure), (14, .pure), (15, .pure), (16, .load), (17, .pure), (18, .load), (19, .pure), (20, .pure), (21, .eff), (22, .pure), (23, .pure), (24, .pure), (25, .load), (27, .pure), (26, .eff), (28, .pure), (29, .pure)]) mixed (by kernel_rfl) (by exact Ent.pull_drop (is := [0]) rfl) ?_
   refine RD.n rfl (p_fieldAddr rfl fa_79_0 rfl) ?_
   refine RD.qq rfl rfl rfl rfl (by exact (q_load rfl sc_9 rfl (i := 0) rfl rfl)) (by exact Ent.pull_drop (is := [0]) rfl) ?_
   refine RD.C [] rfl rfl rfl rfl (c_call rfl rfl) (RGood_A (piece (secT t k) 2 ((secT t k).getD 1 0).toNat)) rfl (by rintro _ _ ⟨rfl, rfl⟩; exact .inl (by exact Ent.pull_drop (is := [0]) rfl)) ?_
   rintro _ _ ⟨rfl, rfl⟩
   refine RD.n rfl (by exact (p_not rfl rfl)) ?_
   refine RD.n rfl (p_move rfl (by conv => lhs; whnf)) ?_
   refine RD.split 52 rfl (fun h52 => ?_) (fun h52 => ?_)
   ·
    have hg : ¬ gb (piece (secT t k) 2 ((secT t k).getD 1 0).toNat) = true := by simpa using h52
    refine RD.OP rfl rfl rfl rfl ?_
    refine RD.OL rfl rfl rfl rfl (by exact Ent.pull_drop (is := [0]) rfl) ?_
    refine RD.OP rfl rfl rfl rfl ?_
    refine RD.n rfl (p_pick_t rfl rfl (by conv => lhs; whnf)) ?_
    refine RD.n rfl (p_move rfl (by conv => lhs; whnf)) ?_
    refine RD.OP rfl rfl rfl rfl ?_
    refine RD.OL rfl rfl rfl rfl (by exact Ent.pull_drop (is := [0]) rfl) ?_
    refine RD.OP rfl rfl rfl rfl ?_
    refine RD.n rfl (p_pick_t rfl rfl (by conv => lhs; whnf)) ?_
    refine RD.n rfl (p_move rfl (by conv => lhs; whnf)) ?_
    refine RD.OP rfl rfl rfl rfl ?_
    refine RD.OL rfl rfl rfl rfl (by exact Ent.pull_drop (is := [0]) rfl) ?_
    refine RD.OP rfl rfl rfl rfl ?_
    refine RD.OL rfl rfl rfl rfl (by exact Ent.pull_drop (is := [0]) rfl) ?_
    refine RD.OP rfl rfl rfl rfl ?_
    refine RD.OP rfl rfl rfl rfl ?_
    refine RD.OE rfl rfl rfl rfl (.inl (by exact Ent.pull_drop (is := [0]) rfl)) ?_
    refine RD.OP rfl rfl rfl rfl ?_
    refine RD.n rfl (p_pick_t rfl rfl (by conv => lhs; whnf)) ?_
    refine RD.n rfl (p_move rfl (by conv => lhs; whnf)) ?_
    refine RD.OL rfl rfl rfl rfl (by exact Ent.pull_drop (is := [0]) rfl) ?_
    refine RD.OP rfl rfl rfl rfl ?_
    refine RD.OE rfl rfl rfl rfl (.inl (by exact Ent.pull_drop (is := [0]) rfl)) ?_
    refine RD.OP rfl rfl rfl rfl ?_
    refine RD.n rfl (p_pick_t rfl rfl (by conv => lhs; whnf)) ?_
    refine RD.nil ?_
    refine hK10 _ _ ?_
    refine T.cond_t rfl ?_
    refine T.seq fun K11 hK11 => ?_
    refine T.region (l := [0, 1, 2]) rfl ?_
    refine RN.p rfl (p_build rfl pl_79 ti_79 (by dsimp [layAll, lay]; rfl)) ?_
    refine RN.EN rfl rfl rfl (by exact (e_storeA rfl ts_79 rfl rfl rfl (rcE_one (VE.zero, 0)) (i := 1) rfl (by exact Nat.le_refl _))) ?_
    rintro _ _ ⟨rfl, rfl⟩
    refine RN.a rfl ?_
    refine RN.nil ?_
    refine hK11 _ _ ?_
    refine T.ret ?_
    refine Post.seq_r ?_
    have hz : (rdE c (secT t k)) = VE.zero := by unfold rdE; rw [if_neg (fun h => hg h.2.2.1)]
    have hl0 : ¬ 0 < (rdE c (secT t k)).len := by rw [hz]; decide
    refine bodyQ_ret [] (RetRun.cell rfl (load_cellV ag_79 ts_79 (i := 1) rfl (Nat.le_refl 4) rfl) (RetRun.tmp RetRun.nil)) ⟨by rw [if_neg hl0, decide_eq_false hl0]; rfl, rfl⟩ (Ent.pull_drop (is := [2]) rfl)
   ·
    have hg : gb (piece (secT t k) 2 ((secT t k).getD 1 0).toNat) = true := by simpa using h52
    refine RD.n rfl (p_fieldAddr rfl fa_79_1 rfl) ?_
    refine RD.qq rfl rfl rfl rfl (by exact (q_load rfl sc_3 rfl (i := 0) rfl rfl)) (by exact Ent.pull_drop (is := [0]) rfl) ?_
    refine RD.n rfl (p_lss rfl rfl rfl) ?_
    refine RD.n rfl (p_pick_f rfl rfl (by conv => lhs; whnf)) ?_
    refine RD.n rfl (p_move rfl (by conv => lhs; whnf)) ?_
    refine RD.split_dec 57 rfl (fun h57 => ?_) (fun h57 => ?_)
    ·
     refine RD.OP rfl rfl rfl rfl ?_
     refine RD.OL rfl rfl rfl rfl (by exact Ent.pull_drop (is := [0]) rfl) ?_
     refine RD.OP rfl rfl rfl rfl ?_
     refine RD.n rfl (p_pick_t rfl rfl (by conv => lhs; whnf)) ?_
     refine RD.n rfl (p_move rfl (by conv => lhs; whnf)) ?_
     refine RD.OP rfl rfl rfl rfl ?_
     refine RD.OL rfl rfl rfl rfl (by exact Ent.pull_drop (is := [0]) rfl) ?_
     refine RD.OP rfl rfl rfl rfl ?_
     refine RD.OL rfl rfl rfl rfl (by exact Ent.pull_drop (is := [0]) rfl) ?_
     refine RD.OP rfl rfl rfl rfl ?_
     refine RD.OP rfl rfl rfl rfl ?_
     refine RD.OE rfl rfl rfl rfl (.inl (by exact Ent.pull_drop (is := [0]) rfl)) ?_
     refine RD.OP rfl rfl rfl rfl ?_
     refine RD.n rfl (p_pick_t rfl rfl (by conv => lhs; whnf)) ?_
     refine RD.n rfl (p_move rfl (by conv => lhs; whnf)) ?_
     refine RD.OL rfl rfl rfl rfl (by exact Ent.pull_drop (is := [0]) rfl) ?_
     refine RD.OP rfl rfl rfl rfl ?_
     refine RD.OE rfl rfl rfl rfl (.inl (by exact Ent.pull_drop (is := [0]) rfl)) ?_
     refine RD.OP rfl rfl rfl rfl ?_
     refine RD.n rfl (p_pick_t rfl rfl (by conv => lhs; whnf)) ?_
     refine RD.nil ?_
     refine hK10 _ _ ?_
     refine T.cond_t rfl ?_
     refine T.seq fun K12 hK12 => ?_
     refine T.region (l := [0, 1, 2]) rfl ?_
     refine RN.p rfl (p_build rfl pl_79 ti_79 (by dsimp [layAll, lay]; rfl)) ?_
     refine RN.EN rfl rfl rfl (by exact (e_storeA rfl ts_79 rfl rfl rfl (rcE_one (VE.zero, 0)) (i := 1) rfl (by exact Nat.le_refl _))) ?_
     rintro _ _ ⟨rfl, rfl⟩
     refine RN.a rfl ?_
     refine RN.nil ?_
     refine hK12 _ _ ?_
     refine T.ret ?_
     refine Post.seq_r ?_
     have hz : (rdE c (secT t k)) = VE.zero := by unfold rdE; rw [if_neg (fun h => by obtain ⟨_, g1, g2, g3⟩ := h.2.2; omega)]
     have hl0 : ¬ 0 < (rdE c (secT t k)).len := by rw [hz]; decide
     refine bodyQ_ret [] (RetRun.cell rfl (load_cellV ag_79 ts_79 (i := 1) rfl (Nat.le_refl 4) rfl) (RetRun.tmp RetRun.nil)) ⟨by rw [if_neg hl0, decide_eq_false hl0]; rfl, rfl⟩ (Ent.pull_drop (is := [2]) rfl)
    ·
     refine RD.n rfl (p_fieldAddr rfl fa_79_2 rfl) ?_
     refine RD.qq rfl rfl rfl rfl (by exact (q_load rfl sc_3 rfl (i := 0) rfl rfl)) (by exact Ent.pull_drop (is := [0]) rfl) ?_
     refine RD.n rfl (p_lss rfl rfl rfl) ?_
     refine RD.n rfl (p_pick_f rfl rfl (by conv => lhs; whnf)) ?_
     refine RD.n rfl (p_move rfl (by conv => lhs; whnf)) ?_
     refine RD.split_dec 62 rfl (fun h62 => ?_) (fun h62 => ?_)
     ·
      refine RD.OP rfl rfl rfl rfl ?_
      refine RD.OL rfl rfl rfl rfl (by exact Ent.pull_drop (is := [0]) rfl) ?_
      refine RD.OP rfl rfl rfl rfl ?_
      refine RD.OL rfl rfl rfl rfl (by exact Ent.pull_drop (is := [0]) rfl) ?_
      refine RD.OP rfl rfl rfl rfl ?_
      refine RD.OP rfl rfl rfl rfl ?_
      refine RD.OE rfl rfl rfl rfl (.inl (by exact Ent.pull_drop (is := [0]) rfl)) ?_
      refine RD.OP rfl rfl rfl rfl ?_
      refine RD.n rfl (p_pick_t rfl rfl (by conv => lhs; whnf)) ?_
      refine RD.n rfl (p_move rfl (by conv => lhs; whnf)) ?_
      refine RD.OL rfl rfl rfl rfl (by exact Ent.pull_drop (is := [0]) rfl) ?_
      refine RD.OP rfl rfl rfl rfl ?_
      refine RD.OE rfl rfl rfl rfl (.inl (by exact Ent.pull_drop (is := [0]) rfl)) ?_
      refine RD.OP rfl rfl rfl rfl ?_
      refine RD.n rfl (p_pick_t rfl rfl (by conv => lhs; whnf)) ?_
      refine RD.nil ?_
      refine hK10 _ _ ?_
      refine T.cond_t rfl ?_
      refine T.seq fun K13 hK13 => ?_
      refine T.region (l := [0, 1, 2]) rfl ?_
      refine RN.p rfl (p_build rfl pl_79 ti_79 (by dsimp [layAll, lay]; rfl)) ?_
      refine RN.EN rfl rfl rfl (by exact (e_storeA rfl ts_79 rfl rfl rfl (rcE_one (VE.zero, 0)) (i := 1) rfl (by exact Nat.le_refl _))) ?_
      rintro _ _ ⟨rfl, rfl⟩
      refine RN.a rfl ?_
      refine RN.nil ?_
      refine hK13 _ _ ?_
      refine T.ret ?_
      refine Post.seq_r ?_
      have hz : (rdE c (secT t k)) = VE.zero := by unfold rdE; rw [if_neg (fun h => by obtain ⟨_, g1, g2, g3⟩ := h.2.2; omega)]
      have hl0 : ¬ 0 < (rdE c (secT t k)).len := by rw [hz]; decide
      refine bodyQ_ret [] (RetRun.cell rfl (load_cellV ag_79 ts_79 (i := 1) rfl (Nat.le_refl 4) rfl) (RetRun.tmp RetRun.nil)) ⟨by rw [if_neg hl0, decide_eq_false hl0]; rfl, rfl⟩ (Ent.pull_drop (is := [2]) rfl)
     ·
      refine RD.n rfl (p_fieldAddr rfl fa_79_1 rfl) ?_
      refine RD.qq rfl rfl rfl rfl (by exact (q_load rfl sc_3 rfl (i := 0) rfl rfl)) (by exact Ent.pull_drop (is := [0]) rfl) ?_
      refine RD.n rfl (p_fieldAddr rfl fa_79_2 rfl) ?_
      refine RD.qq rfl rfl rfl rfl (by exact (q_load rfl sc_3 rfl (i := 0) rfl rfl)) (by exact Ent.pull_drop (is := [0]) rfl) ?_
      refine RD.n rfl (by exact (p_addN rfl rfl rfl (by omega))) ?_
      refine RD.n rfl (p_move rfl (by conv => lhs; whnf)) ?_
      refine RD.C [] rfl rfl rfl rfl (c_call rfl rfl) (Cap_spec t (by omega)) rfl (by rintro _ _ ⟨rfl, rfl⟩; exact .inl (by exact Ent.pull_drop (is := [0]) rfl)) ?_
      rintro _ _ ⟨rfl, rfl⟩
      rw [hcap]
      refine RD.n rfl (p_gtr rfl rfl rfl) ?_
      refine RD.n rfl (p_pick_f rfl rfl (by conv => lhs; whnf)) ?_
      refine RD.n rfl (p_move rfl (by conv => lhs; whnf)) ?_
      refine RD.split_dec 72 rfl (fun h72 => ?_) (fun h72 => ?_)
      ·
       refine RD.OL rfl rfl rfl rfl (by exact Ent.pull_drop (is := [0]) rfl) ?_
       refine RD.OP rfl rfl rfl rfl ?_
       refine RD.OE rfl rfl rfl rfl (.inl (by exact Ent.pull_drop (is := [0]) rfl)) ?_
       refine RD.OP rfl rfl rfl rfl ?_
       refine RD.n rfl (p_pick_t rfl rfl (by conv => lhs; whnf)) ?_
       refine RD.nil ?_
       refine hK10 _ _ ?_
       refine T.cond_t rfl ?_
       refine T.seq fun K14 hK14 => ?_
       refine T.region (l := [0, 1, 2]) rfl ?_
       refine RN.p rfl (p_build rfl pl_79 ti_79 (by dsimp [layAll, lay]; rfl)) ?_
       refine RN.EN rfl rfl rfl (by exact (e_storeA rfl ts_79 rfl rfl rfl (rcE_one (VE.zero, 0)) (i := 1) rfl (by exact Nat.le_refl _))) ?_
       rintro _ _ ⟨rfl, rfl⟩
       refine RN.a rfl ?_
       refine RN.nil ?_
       refine hK14 _ _ ?_
       refine T.ret ?_
       refine Post.seq_r ?_
       have hz : (rdE c (secT t k)) = VE.zero := by unfold rdE; rw [if_neg (fun h => by obtain ⟨_, g1, g2, g3⟩ := h.2.2; omega)]
       have hl0 : ¬ 0 < (rdE c (secT t k)).len := by rw [hz]; decide
       refine bodyQ_ret [] (RetRun.cell rfl (load_cellV ag_79 ts_79 (i := 1) rfl (Nat.le_refl 4) rfl) (RetRun.tmp RetRun.nil)) ⟨by rw [if_neg hl0, decide_eq_false hl0]; rfl, rfl⟩ (Ent.pull_drop (is := [2]) rfl)
      ·
       refine RD.qq rfl rfl rfl rfl (by exact (q_loadA rfl ag_79 ts_79 rfl (i := 0) rfl (by (simp; done)) rfl)) (by exact Ent.pull_drop (is := [0]) rfl) ?_
       refine RD.n rfl (p_move rfl (by conv => lhs; whnf)) ?_
       refine RD.C [] rfl rfl rfl rfl (c_call rfl rfl) (Bytes_spec (saysT (secT t k), k) (by show (piece (secT t k) 2 _).length ≤ 16; rw [piece, List.length_drop, List.length_take]; omega) (by show leV (piece (secT t k) 18 2) < 65536; omega) (by show leV (piece (secT t k) 20 2) < 65536; omega)) rfl (by rintro _ _ ⟨rfl, rfl⟩; exact .inl (by exact Ent.pull_drop (is := [0]) rfl)) ?_
       rintro _ _ ⟨rfl, rfl⟩
       refine RD.n rfl (p_sneq rfl rfl rfl) ?_
       refine RD.n rfl (p_pick_f rfl rfl (by conv => lhs; whnf)) ?_
       refine RD.nil ?_
       refine hK10 _ _ ?_
       refine T.cond_dec rfl (fun h77 => ?_) (fun h77 => ?_)
       ·
        refine T.seq fun K15 hK15 => ?_
        refine T.region (l := [0, 1, 2]) rfl ?_
        refine RN.p rfl (p_build rfl pl_79 ti_79 (by dsimp [layAll, lay]; rfl)) ?_
        refine RN.EN rfl rfl rfl (by exact (e_storeA rfl ts_79 rfl rfl rfl (rcE_one (VE.zero, 0)) (i := 1) rfl (by exact Nat.le_refl _))) ?_
        rintro _ _ ⟨rfl, rfl⟩
        refine RN.a rfl ?_
        refine RN.nil ?_
        refine hK15 _ _ ?_
        refine T.ret ?_
        refine Post.seq_r ?_
        have hz : (rdE c (secT t k)) = VE.zero := by unfold rdE; rw [if_neg (fun h => h77 h.2.1.symm)]
        have hl0 : ¬ 0 < (rdE c (secT t k)).len := by rw [hz]; decide
        refine bodyQ_ret [] (RetRun.cell rfl (load_cellV ag_79 ts_79 (i := 1) rfl (Nat.le_refl 4) rfl) (RetRun.tmp RetRun.nil)) ⟨by rw [if_neg hl0, decide_eq_false hl0]; rfl, rfl⟩ (Ent.pull_drop (is := [2]) rfl)
       ·
        refine T.skip ?_
        refine hK9 _ _ ?_
        refine T.seq fun K16 hK16 => ?_
        refine T.region (l := [0, 1, 2]) rfl ?_
        refine RN.u rfl (by exact (q_loadA rfl ag_79 ts_79 rfl (i := 0) rfl (by (simp; done)) rfl)) ?_
        refine RN.EN rfl rfl rfl (by exact (e_storeA rfl ts_79 rfl rfl rfl (rcE_one (saysT (secT t k), k)) (i := 1) rfl (by exact Nat.le_refl _))) ?_
        rintro _ _ ⟨rfl, rfl⟩
        refine RN.a rfl ?_
        refine RN.nil ?_
        refine hK16 _ _ ?_
        refine T.ret ?_
        have hx : (rdE c (secT t k)) = saysT (secT t k) := by unfold rdE; rw [if_pos ⟨h16, (Classical.not_not.1 h77).symm, hg, by omega, by omega, by omega⟩]
        have hl0 : 0 < (rdE c (secT t k)).len := by rw [hx]; omega
        refine bodyQ_ret [] (RetRun.cell rfl (load_cellV (vs := rcE (saysT (secT t k), k)) ag_79 ts_79 (i := 1) rfl (Nat.le_refl 4) rfl) (RetRun.tmp RetRun.nil)) ⟨by rw [if_pos hl0, decide_eq_true hl0, hx]; rfl, rfl⟩ (Ent.pull_drop (is := [2]) rfl)

end Go.Proofs.YtbbgajjonodlfaaGreat
namespace Go.Proofs.YtbbgajjonodlfaaGreat
open Go Go.Sl Go.Proofs
set_option maxRecDepth 20000
open Go.Mo Go.Evl
theorem meets_no {x y : VE} (hn : x.name ≠ y.name) (h : x.first + x.len ≤ y.first ∨ y.first + y.len ≤ x.first) : ¬ x.meets y := by
 rintro (h1 | ⟨h1, h2⟩)
 · exact hn h1
 · omega
theorem meets_iff {x y : VE} (hn : x.name ≠ y.name) (h1 : ¬ x.first + x.len ≤ y.first) : ((y.first + y.len : Nat) : Int) ≤ (x.first : Int) ↔ ¬ x.meets y := by
 constructor
 · exact fun h => meets_no hn (.inr (by omega))
 ·
  intro h
  by_cases g : y.first + y.len ≤ x.first
  · omega
  · exact absurd (.inr ⟨by omega, by omega⟩) h

theorem RVolumes_spec (t : List UInt8) (c : Nat) (ht : t.length = c * 32) (hc : 9 ≤ c ∧ c ≤ 512) : Ctr Tryz.prog 32 [strV t] [] (fun v Ps => v.oneCell' = true ∧ Ps = [vec 79 4 v (rvE c t 8).length (flR (rvE c t 8))]) := by
 refine Ctr.of_body Tryz.func32 rfl (by kernel_rfl) Tryz.ntmps32 rfl rfl (fun Fr => ?_)
 refine T.seq fun K1 hK1 => ?_
 refine T.region (l := [0]) rfl ?_
 refine RN.a rfl ?_
 refine RN.nil ?_
 refine hK1 _ _ ?_
 refine T.seq fun K2 hK2 => ?_
 refine T.region (l := [0, 1]) rfl ?_
 refine RN.E rfl rfl rfl rfl (by exact (e_makeSliceN (n := 0) (c := 0) rfl Tryz.underlying76 ti_79 rfl rfl rfl (by omega))) ?_
 rintro _ _ ⟨b8, rfl, rfl⟩
 refine RN.a rfl ?_
 refine RN.nil ?_
 refine hK2 _ _ ?_
 refine T.seq fun K3 hK3 => ?_
 refine T.seq fun K4 hK4 => ?_
 refine T.ent (Ent.cons (vec_of_row (n := 0) (cap := 0) (sz := 4) (xs := []) (rest := zeros 0 (rcE (VE.zero, 0))) (by simp) (Nat.le_refl _) (by omega) (by simp [zeros])) (Ent.refl _)) ?_
 refine T.region (l := [0]) rfl ?_
 refine RN.a rfl ?_
 refine RN.nil ?_
 refine hK4 _ _ ?_
 refine T.block ?_
 refine T.loop (G := Nat × Value) (fun ⟨k, v⟩ => k ≤ 8 ∧ v.oneCell' = true) (fun ⟨k, v⟩ => [(0, strV t), (3, v), (4, intV k)]) (fun ⟨k, v⟩ => [vec 79 4 v (rvE c t k).length (flR (rvE c t k)), Fr]) (fun ⟨k, v⟩ => 8 - k) (0, slc b8 0 0 0) ⟨Nat.zero_le _, rfl⟩ (LiveIs.cons rfl (LiveIs.cons rfl (LiveIs.cons rfl LiveIs.nil))) (Ent.refl _) ?_
 rintro ⟨k, v⟩ e5 ⟨hk, hv⟩
 dsimp only
 refine T.seq fun K6 hK6 => ?_
 refine T.seq fun K7 hK7 => ?_
 refine T.region (l := [0, 1]) rfl ?_
 refine RN.m rfl ?_
 refine RN.p rfl (p_lss rfl rfl rfl) ?_
 refine RN.nil ?_
 refine hK7 _ _ ?_
 refine T.cond_dec rfl (fun h10 => ?_) (fun h10 => ?_)
 ·
  
  refine T.skip ?_
  refine hK6 _ _ ?_
  refine T.seq fun K8 hK8 => ?_
  refine T.block ?_
  refine T.seq fun K9 hK9 => ?_
  refine T.region (l := [0, 1, 2, 3, 4, 5, 6, 7, 8]) rfl ?_
  refine RN.m rfl ?_
  refine RN.m rfl ?_
  refine RN.C [] rfl rfl rfl rfl (c_call rfl rfl) (entry_spec t k c (by omega) ht hc) rfl ?_
  rintro _ _ ⟨rfl, rfl⟩
  refine RN.m rfl ?_
  refine RN.p rfl (p_extract rfl rfl rfl) ?_
  refine RN.p rfl (p_extract rfl rfl rfl) ?_
  refine RN.E rfl rfl rfl rfl (e_alloc rfl ti_79) ?_
  rintro _ _ ⟨b5, rfl, rfl⟩
  refine RN.EN rfl rfl rfl (by exact (e_storeA rfl ts_79 rfl rfl (by rfl) (rcE_one _) (i := 0) rfl (Nat.le_refl 4))) ?_
  rintro _ _ ⟨rfl, rfl⟩
  refine RN.a rfl ?_
  refine RN.nil ?_
  refine hK9 _ _ ?_
  refine T.cut (G := Bool) (fun ok => (ok = true → rvE c t (k + 1) = (rvE c t k) ++ [((rdE c (secT t k)), k)] ∧ 0 < (rdE c (secT t k)).len) ∧ (ok = false → rvE c t (k + 1) = (rvE c t k))) (fun ok => [(0, strV t), (4, intV k), (3, v), (5, ptr b5 0), (6, .bool ok)]) (fun ok => [vec 79 4 v (rvE c t k).length (flR (rvE c t k)), row b5 79 (rcE (if 0 < (rdE c (secT t k)).len then ((rdE c (secT t k)), k) else (VE.zero, 0))), Fr]) ?_ ?_
  ·
   refine T.seq fun K11 hK11 => ?_
   refine T.region (l := [0]) rfl ?_
   refine RN.a rfl ?_
   refine RN.nil ?_
   refine hK11 _ _ ?_
   refine T.block ?_
   refine T.loop (G := Nat × Bool) (fun ⟨j, ok⟩ => j ≤ (rvE c t k).length ∧ (ok = true → 0 < (rdE c (secT t k)).len ∧ ∀ i (hi : i < (rvE c t k).length), i < j → ¬ (rvE c t k)[i].1.meets (rdE c (secT t k))) ∧ (ok = false → (rdE c (secT t k)).len = 0 ∨ ∃ i, ∃ hi : i < (rvE c t k).length, (rvE c t k)[i].1.meets (rdE c (secT t k)))) (fun ⟨j, ok⟩ => [(0, strV t), (4, intV k), (3, v), (5, ptr b5 0), (6, .bool ok), (7, intV j)]) (fun ⟨j, ok⟩ => [vec 79 4 v (rvE c t k).length (flR (rvE c t k)), row b5 79 (rcE (if 0 < (rdE c (secT t k)).len then ((rdE c (secT t k)), k) else (VE.zero, 0))), Fr]) (fun ⟨j, ok⟩ => (rvE c t k).length - j + (cond ok 1 0)) (0, decide (0 < (rdE c (secT t k)).len)) ⟨Nat.zero_le _, (fun h => ⟨of_decide_eq_true h, fun i hi h => absurd h (Nat.not_lt_zero _)⟩), (fun h => .inl (by have := of_decide_eq_false h; omega))⟩ (LiveIs.cons rfl (LiveIs.cons rfl (LiveIs.cons rfl (LiveIs.cons rfl (LiveIs.cons rfl (LiveIs.cons rfl LiveIs.nil)))))) (Ent.pull_drop (is := [1, 0, 0]) rfl) ?_
   rintro ⟨j, ok⟩ e12 ⟨hjl, hok, hno⟩
   dsimp only
   refine T.seq fun K13 hK13 => ?_
   refine T.seq fun K14 hK14 => ?_
   refine T.region (l := [0, 1, 2, 3, 4, 5, 6]) rfl ?_
   refine RN.m rfl ?_
   refine RN.m rfl ?_
   refine RN.split 20 rfl (fun h20 => ?_) (fun h20 => ?_)
   ·
    obtain rfl : ok = true := h20
    have hlen := (hok rfl).1
    refine RN.m rfl ?_
    refine RN.m rfl ?_
    refine RN.u rfl (q_len_vec rfl Tryz.underlying76 rfl (i := 0) rfl) ?_
    refine RN.p rfl (p_lss rfl rfl rfl) ?_
    refine RN.pt rfl ?_
    refine RN.nil ?_
    refine hK14 _ _ ?_
    refine T.cond_dec rfl (fun h25 => ?_) (fun h25 => ?_)
    ·
     have hj : j < (rvE c t k).length := by omega
     refine T.skip ?_
     refine hK13 _ _ ?_
     refine T.seq fun K15 hK15 => ?_
     refine T.block ?_
     refine T.openVec 0 rfl (by omega) ?_
     rintro bw capw restw rfl hw1 hw2 hw3
     refine T.ent (Hs' := [row bw 79 (flR (rvE c t k) ++ restw), row b5 79 [strV (rdE c (secT t k)).name, intV (rdE c (secT t k)).first, intV (rdE c (secT t k)).len, intV k], Fr]) (by rw [if_pos hlen]; exact Ent.refl _) ?_
     refine T.regionD (z := 38) (Bs := [row bw 79 (flR (rvE c t k) ++ restw), row b5 79 [strV (rdE c (secT t k)).name, intV (rdE c (secT t k)).first, intV (rdE c (secT t k)).len, intV k]]) (l := [(0, .pure), (1, .pure), (2, .pure), (3, .pure), (4, .load), (5, .pure), (6, .load), (7, .pure), (8, .pure), (9, .pure), (10, .pure), (11, .pure), (12, .pure), (13, .load), (14, .pure), (15, .pure), (16, .pure), (17, .pure), (18, .load), (19, .pure), (20, .pure), (21, .load), (22, .pure), (23, .pure), (24, .pure), (25, .load), (26, .pure), (27, .load), (28, .pure), (29, .pure), (30, .pure), (31, .pure), (32, .pure), (33, .load), (34, .pure), (35, .pure), (36, .pure), (37, .pure)]) mixed (by kernel_rfl) (by exact Ent.pull_drop (is := [0, 0]) rfl) ?_
     refine RD.n rfl (p_move rfl (by conv => lhs; whnf)) ?_
     refine RD.n rfl (p_move rfl (by conv => lhs; whnf)) ?_
     refine RD.n rfl (by exact (p_indexAddrN rfl Tryz.underlying76 ts_79 rfl rfl (by omega))) ?_
     refine RD.n rfl (p_fieldAddr rfl fa_79_0 rfl) ?_
     refine RD.qq rfl rfl rfl rfl (by exact (q_load rfl sc_9 rfl (i := 0) rfl (flR_atK (k := 0) hj rfl))) (by exact Ent.pull_drop (is := [0, 0]) rfl) ?_
     refine RD.n rfl (p_fieldAddr rfl fa_79_0 rfl) ?_
     refine RD.qq rfl rfl rfl rfl (by exact (q_load rfl sc_9 rfl (i := 1) rfl rfl)) (by exact Ent.pull_drop (is := [0, 0]) rfl) ?_
     refine RD.n rfl (p_sneq rfl rfl rfl) ?_
     refine RD.n rfl (p_move rfl (by conv => lhs; whnf)) ?_
     refine RD.split_dec 36 rfl (fun h36 => ?_) (fun h36 => ?_)
     ·
      refine RD.n rfl (p_move rfl (by conv => lhs; whnf)) ?_
      refine RD.n rfl (p_move rfl (by conv => lhs; whnf)) ?_
      refine RD.n rfl (by exact (p_indexAddrN rfl Tryz.underlying76 ts_79 rfl rfl (by omega))) ?_
      refine RD.n rfl (p_fieldAddr rfl fa_79_1 rfl) ?_
      refine RD.qq rfl rfl rfl rfl (by exact (q_load rfl sc_3 rfl (i := 0) rfl (flR_atK (k := 1) hj rfl))) (by exact Ent.pull_drop (is := [0, 0]) rfl) ?_
      refine RD.n rfl (p_move rfl (by conv => lhs; whnf)) ?_
      refine RD.n rfl (p_move rfl (by conv => lhs; whnf)) ?_
      refine RD.n rfl (by exact (p_indexAddrN rfl Tryz.underlying76 ts_79 rfl rfl (by omega))) ?_
      refine RD.n rfl (p_fieldAddr rfl fa_79_2 rfl) ?_
      refine RD.qq rfl rfl rfl rfl (by exact (q_load rfl sc_3 rfl (i := 0) rfl (flR_atK (k := 2) hj rfl))) (by exact Ent.pull_drop (is := [0, 0]) rfl) ?_
      refine RD.n rfl (by exact (p_addN rfl rfl rfl (by have := (rv_ok hj).2.2.2; omega))) ?_
      refine RD.n rfl (p_fieldAddr rfl fa_79_1 rfl) ?_
      refine RD.qq rfl rfl rfl rfl (by exact (q_load rfl sc_3 rfl (i := 1) rfl rfl)) (by exact Ent.pull_drop (is := [0, 0]) rfl) ?_
      refine RD.n rfl (p_leq rfl rfl rfl) ?_
      refine RD.n rfl (p_move rfl (by conv => lhs; whnf)) ?_
      refine RD.split_dec 51 rfl (fun h51 => ?_) (fun h51 => ?_)
      ·
       refine RD.OP rfl rfl rfl rfl ?_
       refine RD.OL rfl rfl rfl rfl (by exact Ent.pull_drop (is := [0, 0]) rfl) ?_
       refine RD.OP rfl rfl rfl rfl ?_
       refine RD.OL rfl rfl rfl rfl (by exact Ent.pull_drop (is := [0, 0]) rfl) ?_
       refine RD.OP rfl rfl rfl rfl ?_
       refine RD.OP rfl rfl rfl rfl ?_
       refine RD.OP rfl rfl rfl rfl ?_
       refine RD.OP rfl rfl rfl rfl ?_
       refine RD.OP rfl rfl rfl rfl ?_
       refine RD.OL rfl rfl rfl rfl (by exact Ent.pull_drop (is := [0, 0]) rfl) ?_
       refine RD.OP rfl rfl rfl rfl ?_
       refine RD.n rfl (p_pick_t rfl rfl (by conv => lhs; whnf)) ?_
       refine RD.n rfl (p_pick_t rfl rfl (by conv => lhs; whnf)) ?_
       refine RD.n rfl (p_assign rfl (by conv => lhs; whnf)) ?_
       refine RD.nil ?_
       refine hK15 _ _ ?_
       refine T.region (l := [0, 1, 2]) rfl ?_
       refine RN.m rfl ?_
       refine RN.p rfl (by exact (p_addN (b := 1) rfl rfl rfl (by omega))) ?_
       refine RN.a rfl ?_
       refine RN.nil ?_
       refine ⟨(j + 1, decide (¬ (rvE c t k)[j].1.meets (rdE c (secT t k)))), ⟨by omega, (fun h => ⟨hlen, fun i hi hlt => by
        by_cases e : i = j
        · subst e; exact of_decide_eq_true h
        · exact (hok rfl).2 i hi (by omega)⟩), (fun h => .inr ⟨j, hj, Classical.not_not.1 (of_decide_eq_false h)⟩)⟩, (by show _ - (j + 1) + cond _ 1 0 < _ - j + 1; cases decide (¬ (rvE c t k)[j].1.meets (rdE c (secT t k))) <;> simp only [cond_true, cond_false] <;> omega), (LiveIs.cons rfl (LiveIs.cons rfl (LiveIs.cons rfl (LiveIs.cons rfl (LiveIs.cons (congrArg Value.bool (decide_eq_true (meets_no h36 (.inl (by omega)))).symm) (LiveIs.cons rfl LiveIs.nil)))))), ((Ent.cons (vec_of_row (flR_length _) hw1 hw2 hw3) (Ent.refl _)).trans (Ent.of_eq (by (rw [if_pos hlen]; rfl))))⟩
      ·
       refine RD.n rfl (p_fieldAddr rfl fa_79_1 rfl) ?_
       refine RD.qq rfl rfl rfl rfl (by exact (q_load rfl sc_3 rfl (i := 1) rfl rfl)) (by exact Ent.pull_drop (is := [0, 0]) rfl) ?_
       refine RD.n rfl (p_fieldAddr rfl fa_79_2 rfl) ?_
       refine RD.qq rfl rfl rfl rfl (by exact (q_load rfl sc_3 rfl (i := 1) rfl rfl)) (by exact Ent.pull_drop (is := [0, 0]) rfl) ?_
       refine RD.n rfl (by exact (p_addN rfl rfl rfl (by have := rdE_bound c (secT t k); omega))) ?_
       refine RD.n rfl (p_move rfl (by conv => lhs; whnf)) ?_
       refine RD.n rfl (p_move rfl (by conv => lhs; whnf)) ?_
       refine RD.n rfl (by exact (p_indexAddrN rfl Tryz.underlying76 ts_79 rfl rfl (by omega))) ?_
       refine RD.n rfl (p_fieldAddr rfl fa_79_1 rfl) ?_
       refine RD.qq rfl rfl rfl rfl (by exact (q_load rfl sc_3 rfl (i := 0) rfl (flR_atK (k := 1) hj rfl))) (by exact Ent.pull_drop (is := [0, 0]) rfl) ?_
       refine RD.n rfl (p_leq rfl rfl rfl) ?_
       refine RD.n rfl (p_pick_f rfl rfl (by conv => lhs; whnf)) ?_
       refine RD.n rfl (p_pick_t rfl rfl (by conv => lhs; whnf)) ?_
       refine RD.n rfl (p_assign rfl (by conv => lhs; whnf)) ?_
       refine RD.nil ?_
       refine hK15 _ _ ?_
       refine T.region (l := [0, 1, 2]) rfl ?_
       refine RN.m rfl ?_
       refine RN.p rfl (by exact (p_addN (b := 1) rfl rfl rfl (by omega))) ?_
       refine RN.a rfl ?_
       refine RN.nil ?_
       refine ⟨(j + 1, decide (¬ (rvE c t k)[j].1.meets (rdE c (secT t k)))), ⟨by omega, (fun h => ⟨hlen, fun i hi hlt => by
        by_cases e : i = j
        · subst e; exact of_decide_eq_true h
        · exact (hok rfl).2 i hi (by omega)⟩), (fun h => .inr ⟨j, hj, Classical.not_not.1 (of_decide_eq_false h)⟩)⟩, (by show _ - (j + 1) + cond _ 1 0 < _ - j + 1; cases decide (¬ (rvE c t k)[j].1.meets (rdE c (secT t k))) <;> simp only [cond_true, cond_false] <;> omega), (LiveIs.cons rfl (LiveIs.cons rfl (LiveIs.cons rfl (LiveIs.cons rfl (LiveIs.cons (congrArg Value.bool (decide_eq_decide.2 (meets_iff h36 (by omega)))) (LiveIs.cons rfl LiveIs.nil)))))), ((Ent.cons (vec_of_row (flR_length _) hw1 hw2 hw3) (Ent.refl _)).trans (Ent.of_eq (by (rw [if_pos hlen]; rfl))))⟩
     ·
      refine RD.OP rfl rfl rfl rfl ?_
      refine RD.OP rfl rfl rfl rfl ?_
      refine RD.OP rfl rfl rfl rfl ?_
      refine RD.OP rfl rfl rfl rfl ?_
      refine RD.OL rfl rfl rfl rfl (by exact Ent.pull_drop (is := [0, 0]) rfl) ?_
      refine RD.OP rfl rfl rfl rfl ?_
      refine RD.OP rfl rfl rfl rfl ?_
      refine RD.OP rfl rfl rfl rfl ?_
      refine RD.OP rfl rfl rfl rfl ?_
      refine RD.OL rfl rfl rfl rfl (by exact Ent.pull_drop (is := [0, 0]) rfl) ?_
      refine RD.OP rfl rfl rfl rfl ?_
      refine RD.OP rfl rfl rfl rfl ?_
      refine RD.OL rfl rfl rfl rfl (by exact Ent.pull_drop (is := [0, 0]) rfl) ?_
      refine RD.OP rfl rfl rfl rfl ?_
      refine RD.OP rfl rfl rfl rfl ?_
      refine RD.OP rfl rfl rfl rfl ?_
      refine RD.OL rfl rfl rfl rfl (by exact Ent.pull_drop (is := [0, 0]) rfl) ?_
      refine RD.OP rfl rfl rfl rfl ?_
      refine RD.OL rfl rfl rfl rfl (by exact Ent.pull_drop (is := [0, 0]) rfl) ?_
      refine RD.OP rfl rfl rfl rfl ?_
      refine RD.OP rfl rfl rfl rfl ?_
      refine RD.OP rfl rfl rfl rfl ?_
      refine RD.OP rfl rfl rfl rfl ?_
      refine RD.OP rfl rfl rfl rfl ?_
      refine RD.OL rfl rfl rfl rfl (by exact Ent.pull_drop (is := [0, 0]) rfl) ?_
      refine RD.OP rfl rfl rfl rfl ?_
      refine RD.OP rfl rfl rfl rfl ?_
      refine RD.n rfl (p_pick_f rfl rfl (by conv => lhs; whnf)) ?_
      refine RD.n rfl (p_assign rfl (by conv => lhs; whnf)) ?_
      refine RD.nil ?_
      refine hK15 _ _ ?_
      refine T.region (l := [0, 1, 2]) rfl ?_
      refine RN.m rfl ?_
      refine RN.p rfl (by exact (p_addN (b := 1) rfl rfl rfl (by omega))) ?_
      refine RN.a rfl ?_
      refine RN.nil ?_
      refine ⟨(j + 1, decide (¬ (rvE c t k)[j].1.meets (rdE c (secT t k)))), ⟨by omega, (fun h => ⟨hlen, fun i hi hlt => by
       by_cases e : i = j
       · subst e; exact of_decide_eq_true h
       · exact (hok rfl).2 i hi (by omega)⟩), (fun h => .inr ⟨j, hj, Classical.not_not.1 (of_decide_eq_false h)⟩)⟩, (by show _ - (j + 1) + cond _ 1 0 < _ - j + 1; cases decide (¬ (rvE c t k)[j].1.meets (rdE c (secT t k))) <;> simp only [cond_true, cond_false] <;> omega), (LiveIs.cons rfl (LiveIs.cons rfl (LiveIs.cons rfl (LiveIs.cons rfl (LiveIs.cons (congrArg Value.bool (decide_eq_false (fun h => h (.inl (Classical.not_not.1 h36)))).symm) (LiveIs.cons rfl LiveIs.nil)))))), ((Ent.cons (vec_of_row (flR_length _) hw1 hw2 hw3) (Ent.refl _)).trans (Ent.of_eq (by (rw [if_pos hlen]; rfl))))⟩
    ·
     refine T.exit ?_
     refine Post.seq_x ?_
     refine Post.seq_x ?_
     refine Post.block_hit ?_
     refine ⟨true, ⟨(fun _ => ⟨rv_yes hlen (fun i hi => (hok rfl).2 i hi (by omega)), hlen⟩), (fun h => by cases h)⟩, (LiveIs.cons rfl (LiveIs.cons rfl (LiveIs.cons rfl (LiveIs.cons rfl (LiveIs.cons rfl LiveIs.nil))))), Ent.refl _⟩
   ·
    obtain rfl : ok = false := h20
    refine RN.no0 rfl ?_
    refine RN.no0 rfl ?_
    refine RN.no0 rfl ?_
    refine RN.no0 rfl ?_
    refine RN.pf rfl ?_
    refine RN.nil ?_
    refine hK14 _ _ ?_
    refine T.cond_f rfl ?_
    refine T.exit ?_
    refine Post.seq_x ?_
    refine Post.seq_x ?_
    refine Post.block_hit ?_
    refine ⟨false, ⟨(fun h => by cases h), fun _ => rv_no (hno rfl)⟩, (LiveIs.cons rfl (LiveIs.cons rfl (LiveIs.cons rfl (LiveIs.cons rfl (LiveIs.cons rfl LiveIs.nil))))), Ent.refl _⟩
  ·
   rintro ok e10 ⟨hy, hn⟩
   refine T.seq fun K16 hK16 => ?_
   refine T.region (l := [0]) rfl ?_
   refine RN.m rfl ?_
   refine RN.nil ?_
   refine hK16 _ _ ?_
   refine T.cond rfl (fun h65 => ?_) (fun h65 => ?_)
   ·
    obtain rfl : ok = true := h65
    obtain ⟨hrv, hlen⟩ := hy rfl
    refine T.ent (Hs' := [vec 79 4 v (rvE c t k).length (flR (rvE c t k)), row b5 79 (rcE ((rdE c (secT t k)), k)), Fr]) (by rw [if_pos hlen]; exact Ent.refl _) ?_
    refine T.region (l := [0, 1, 2, 3, 4]) rfl ?_
    refine RN.m rfl ?_
    refine RN.u rfl (by exact (q_loadA rfl ag_79 ts_79 rfl (i := 1) rfl (Nat.le_refl 4) rfl)) ?_
    refine RN.E rfl rfl rfl rfl (e_buildSlice1A rfl Tryz.underlying76 ti_79 rfl rfl (by rfl) (by decide)) ?_
    rintro _ _ ⟨b68, rfl, rfl⟩
    refine RN.E rfl rfl rfl rfl (e_append rfl Tryz.underlying76 ni_76 ti_79 rfl rfl (i := 1) rfl (src_full (i := 0) rfl rfl) (rcE_one _) (by have := rv_len c t k; omega)) ?_
    rintro v69 _ ⟨hv69, rfl⟩
    refine RN.a rfl ?_
    refine RN.nil ?_
    refine hK8 _ _ ?_
    refine T.region (l := [0, 1, 2]) rfl ?_
    refine RN.m rfl ?_
    refine RN.p rfl (by exact (p_addN (b := 1) rfl rfl rfl (by omega))) ?_
    refine RN.a rfl ?_
    refine RN.nil ?_
    refine ⟨(k + 1, v69), ⟨by omega, hv69⟩, (by simp; omega), (LiveIs.cons rfl (LiveIs.cons rfl (LiveIs.cons rfl LiveIs.nil))), ?_⟩
    dsimp only
    rw [hrv, flR_append, List.length_append]
    exact Ent.pull_drop (is := [1, 2]) rfl
   ·
    obtain rfl : ok = false := h65
    have hrv := hn rfl
    refine T.skip ?_
    refine hK8 _ _ ?_
    refine T.region (l := [0, 1, 2]) rfl ?_
    refine RN.m rfl ?_
    refine RN.p rfl (by exact (p_addN (b := 1) rfl rfl rfl (by omega))) ?_
    refine RN.a rfl ?_
    refine RN.nil ?_
    refine ⟨(k + 1, v), ⟨by omega, hv⟩, (by simp; omega), (LiveIs.cons rfl (LiveIs.cons rfl (LiveIs.cons rfl LiveIs.nil))), ?_⟩
    dsimp only
    rw [hrv]
    exact Ent.pull_drop (is := [0, 1]) rfl
 ·
  obtain rfl : k = 8 := by omega
  refine T.exit ?_
  refine Post.seq_x ?_
  refine Post.seq_x ?_
  refine Post.block_hit ?_
  refine hK3 _ _ ?_
  refine T.seq fun K17 hK17 => ?_
  refine T.region (l := [0, 1]) rfl ?_
  refine RN.m rfl ?_
  refine RN.a rfl ?_
  refine RN.nil ?_
  refine hK17 _ _ ?_
  refine T.ret ?_
  refine bodyQ_ret [vec 79 4 v (rvE c t 8).length (flR (rvE c t 8))] (RetRun.tmp RetRun.nil) ⟨hv, rfl⟩ (Ent.refl _)

theorem RFind_spec (v : Value) (L : List (VE × Nat)) (name : List UInt8) : Ctr Tryz.prog 56 [v, strV name] [vec 79 4 v L.length (flR L)] (fun w Ps => ∃ r, w = .int .i64 r ∧ FindQ L name r ∧ Ps = [vec 79 4 v L.length (flR L)]) := by
 refine Ctr.of_body Tryz.func56 rfl (by kernel_rfl) Tryz.ntmps56 rfl rfl (fun Fr => ?_)
 refine T.seq fun K1 hK1 => ?_
 refine T.region (l := [0]) rfl ?_
 refine RN.a rfl ?_
 refine RN.nil ?_
 refine hK1 _ _ ?_
 refine T.seq fun K2 hK2 => ?_
 refine T.seq fun K3 hK3 => ?_
 refine T.region (l := [0]) rfl ?_
 refine RN.a rfl ?_
 refine RN.nil ?_
 refine hK3 _ _ ?_
 refine T.block ?_
 refine T.loop (G := Nat) (fun k => k ≤ L.length ∧ ∀ j (hj : j < L.length), j < k → L[j].1.name ≠ name) (fun k => [(0, v), (1, strV name), (5, intV k)]) (fun k => [vec 79 4 v L.length (flR L), Fr]) (fun k => L.length - k) 0 ⟨Nat.zero_le _, fun j hj h => absurd h (Nat.not_lt_zero _)⟩ (LiveIs.cons rfl (LiveIs.cons rfl (LiveIs.cons rfl LiveIs.nil))) (Ent.refl _) ?_
 rintro k e4 ⟨hk, hno⟩
 refine T.seq fun K5 hK5 => ?_
 refine T.seq fun K6 hK6 => ?_
 refine T.region (l := [0, 1, 2, 3]) rfl ?_
 refine RN.m rfl ?_
 refine RN.m rfl ?_
 refine RN.u rfl (q_len_vec rfl Tryz.underlying76 rfl (i := 0) rfl) ?_
 refine RN.p rfl (p_lss rfl rfl rfl) ?_
 refine RN.nil ?_
 refine hK6 _ _ ?_
 refine T.cond_dec rfl (fun h9 => ?_) (fun h9 => ?_)
 ·
  have hj : k < L.length := by omega
  refine T.skip ?_
  refine hK5 _ _ ?_
  refine T.seq fun K7 hK7 => ?_
  refine T.block ?_
  refine T.seq fun K8 hK8 => ?_
  refine T.openVec 0 rfl (by omega) ?_
  rintro bw capw restw rfl hw1 hw2 hw3
  refine T.region (l := [0, 1, 2, 3, 4, 5, 6]) rfl ?_
  refine RN.m rfl ?_
  refine RN.m rfl ?_
  refine RN.p rfl (by exact (p_indexAddrN rfl Tryz.underlying76 ts_79 rfl rfl (by omega))) ?_
  refine RN.p rfl (p_fieldAddr rfl fa_79_0 rfl) ?_
  refine RN.u rfl (by exact (q_load rfl sc_9 rfl (i := 0) rfl (flR_atK (k := 0) hj rfl))) ?_
  refine RN.m rfl ?_
  refine RN.p rfl (p_seql rfl rfl rfl) ?_
  refine RN.nil ?_
  refine hK8 _ _ ?_
  refine T.cond_dec rfl (fun h18 => ?_) (fun h18 => ?_)
  ·
   refine T.seq fun K9 hK9 => ?_
   refine T.region (l := [0, 1]) rfl ?_
   refine RN.m rfl ?_
   refine RN.a rfl ?_
   refine RN.nil ?_
   refine hK9 _ _ ?_
   refine T.ret ?_
   refine Post.block_r ?_
   refine Post.seq_r ?_
   refine Post.seq_r ?_
   refine Post.block_r ?_
   refine Post.seq_r ?_
   refine bodyQ_ret [vec 79 4 (slc bw 0 L.length capw) L.length (flR L)] (RetRun.tmp RetRun.nil) ⟨_, rfl, .inr ⟨k, hj, rfl, h18⟩, rfl⟩ (Ent.cons (vec_of_row (flR_length _) hw1 hw2 hw3) (Ent.refl _))
  ·
   refine T.skip ?_
   refine hK7 _ _ ?_
   refine T.region (l := [0, 1, 2]) rfl ?_
   refine RN.m rfl ?_
   refine RN.p rfl (by exact (p_addN (b := 1) rfl rfl rfl (by omega))) ?_
   refine RN.a rfl ?_
   refine RN.nil ?_
   refine ⟨k + 1, ⟨by omega, fun i hi h => by
    by_cases e : i = k
    · subst e; exact h18
    · exact hno i hi (by omega)⟩, (by omega), (LiveIs.cons rfl (LiveIs.cons rfl (LiveIs.cons rfl LiveIs.nil))), (Ent.cons (vec_of_row (flR_length _) hw1 hw2 hw3) (Ent.refl _))⟩
 ·
  refine T.exit ?_
  refine Post.seq_x ?_
  refine Post.seq_x ?_
  refine Post.block_hit ?_
  refine hK2 _ _ ?_
  refine T.seq fun K10 hK10 => ?_
  refine T.region (l := [0]) rfl ?_
  refine RN.a rfl ?_
  refine RN.nil ?_
  refine hK10 _ _ ?_
  refine T.ret ?_
  refine bodyQ_ret [vec 79 4 v L.length (flR L)] (RetRun.tmp RetRun.nil) ⟨_, rfl, .inl ⟨rfl, fun j hj => hno j hj (by omega)⟩, rfl⟩ (Ent.refl _)

end Go.Proofs.YtbbgajjonodlfaaGreat
